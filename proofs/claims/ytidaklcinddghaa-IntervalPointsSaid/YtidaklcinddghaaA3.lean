import Derived.RangeFuncNested
import Derived.RangeFuncBound
import Derived.RangeFuncCalls
import Derived.RangeFuncLeaves
import Derived.Shelf.Abstract
import Derived.Shelf.RegionOpen
import Derived.OwnWalkIn
import Derived.TacticsInMore
import Derived.LoopNIn
import Derived.LoopIn
import Derived.Maps.AppendAt
import Derived.Test.YtidaklcinddghaaA2
namespace Go.Proofs.Ytidaklcinddghaa
open Go.RowKit Go.Shelf
attribute [local go_sem] Oper.semAt_some

/-- Block b is as it was. -/
def Keep1 (b : Nat) (W W' : World) : Prop := W'.heap[b]? = W.heap[b]?
theorem Keep1.cell {b : Nat} {W W' : World} (h : Keep1 b W W') (o : Nat) : W'.cell? ⟨b, o, none⟩ = W.cell? ⟨b, o, none⟩ := World.cell?_of_block (w := W) (a := ⟨b, o, none⟩) h
theorem Keep1.trans {b : Nat} {A B C : World} (h : Keep1 b A B) (k : Keep1 b B C) : Keep1 b A C := Eq.trans k h
theorem keep1_b {b : Nat} {w : World} (hb : b < w.heap.size) (W : World) (l : Nat) (o o' : Obj) (hl : w.heap.size ≤ l) (_ : W.heap[l]? = some o) (_ : o.isCells = false) (_ : o.isWalk = false) : Keep1 b W (W.putObj l o') :=
  World.putObj_heap_other (by omega)
theorem keep1_alloc {b : Nat} {W : World} (hb : b < W.heap.size) (o : Obj) : Keep1 b W (W.alloc o) := Below.heap_alloc W o b hb
theorem Keep1.of_below {b B : Nat} {W W' : World} (h : Below B W W') (hb : b < B) : Keep1 b W W' := h.block b hb
theorem Keep1.lt {b : Nat} {W W' : World} (h : Keep1 b W W') (hb : b < W.heap.size) : b < W'.heap.size := by
  rcases Nat.lt_or_ge b W'.heap.size with h1 | h1
  · exact h1
  · have := h
    unfold Keep1 at this
    rw [Array.getElem?_eq_none h1, Array.getElem?_eq_getElem hb] at this
    cases this

/-- An iterator value over intervals: it hands out the list l (each element meets p), in order, or a beginning of it. -/
def SeqP (g : Nat) (lb : Array Value) (p : Int × Int → Prop) (b : Nat) (l : List (Int × Int)) (w : World) : Prop :=
  ∀ n, 1 ≤ n → SeqStopsK Fence.wide n Try.prog g lb (fun x : { x : Int × Int // p x } => #[ivV x.1]) (Keep1 b) (fun ys => ys.map (·.1) = l) (fun pre => pre.map (·.1) <+: l) l.length w

theorem AbidesFrom.below {β : Type} {B : Nat} {J : β → World → Prop} (h : AbidesFrom B J) {s : β} {W W' : World} (hs : J s W) (hb : Below W.heap.size W W') : J s W' :=
  h s W W' none hs ⟨hb.os, hb.tape, hb.output, hb.size, fun k hk _ => hb.block k hk⟩ (fun r e => by cases e)

set_option maxRecDepth 100000 in
set_option maxHeartbeats 2000000 in
theorem values1_in (p : Int × Int → Prop) (n : Nat) (hn : 1 ≤ n) (lp Bs b : Nat) (A : Option Addr) (c : Nat) (l : List (Int × Int)) (hp : ∀ x ∈ l, p x) (J Jx : List { x : Int × Int // p x } → World → Prop)
    (W : World) (hJ : AbidesFrom W.heap.size J)
    (hY : ∀ pre x W, J pre W → pre.length < l.length → YieldAt Fence.wide (n - 1) Try.prog lp #[ivV x.1] W fun e W' =>
      (e = .returned (.bool true) ∧ J (pre ++ [x]) W' ∧ Keep1 b W W') ∨ (e = .returned (.bool false) ∧ Jx (pre ++ [x]) W'))
    (hBs : W.cell? ⟨Bs, 0, none⟩ = some (.slice A l.length c)) (hb : b < W.heap.size) (hc : l.length ≤ c) (hm : c ≤ maxLen) (hA : 0 < l.length → ∃ off, A = some ⟨b, off, none⟩ ∧ CellsAt W encIv 2 b off l) (h0 : J [] W) :
    CallsIn Fence.wide n Try.prog 51 #[.func (.yield lp) #[] #[], .pointer (some ⟨Bs, 0, none⟩)] W fun e W' => (∃ v, e = .returned v) ∧
      ((∃ ys, ys.map (·.1) = l ∧ J ys W') ∨ (∃ pre, pre.map (·.1) <+: l ∧ Jx pre W')) := by
  unfold maxLen at hm
  have HA := Lib.hid hA
  have HY := Lib.hid hY
  have HJ := Lib.hid hJ
  clear hA hY hJ
  refine callsIn_of_wp Try.func51 rfl trivial ?_ rfl
  simp only [Try.ntmps51, List.size_toArray, List.length_cons, List.length_nil, Nat.reduceAdd, Nat.reduceSub, Array.replicate_succ, Array.replicate_zero, List.push_toArray, List.append_toArray, List.nil_append, List.cons_append]
  gi_wp2
  gi_loopw [7] (fun i wr => ∃ (k : Nat) (ys : List { x : Int × Int // p x }), k ≤ l.length ∧ i = .int .i64 k ∧ ys.map (·.1) = l.take k ∧ J ys wr ∧ Keep1 b W wr)
    (fun i _ => l.length - (intOf i).toNat)
  case atStart => exact ⟨0, [], Nat.zero_le _, rfl, rfl, h0, rfl⟩
  case round =>
    obtain ⟨k, ys, hk, rfl, hys, hJs, hB⟩ := hrel
    have HYS := Lib.hid hys
    clear hys
    by_cases hlt : k < l.length
    · obtain ⟨off, rfl, hcell⟩ := HA.out (by omega)
      obtain ⟨x, hx⟩ : ∃ x, l[k]? = some x := ⟨l[k], by simp [hlt]⟩
      have c0 : wr.cell? ⟨b, off + k * 2, none⟩ = some (.int .i64 x.1) := (hB.cell _).trans (hcell k x hx 0 _ rfl)
      have c1 : wr.cell? ⟨b, off + k * 2 + 1, none⟩ = some (.int .i64 x.2) := (hB.cell _).trans (hcell k x hx 1 _ rfl)
      have HX := Lib.hid hx
      have hpx : p x := hp x (List.mem_of_getElem? hx)
      have hlen : ys.length = k := by have := congrArg List.length HYS.out; simpa [Nat.min_eq_left hk] using this
      have hJ1 : J ys (wr.alloc (.cells #[.int .i64 x.1, .int .i64 x.2] 23)) := AbidesFrom.below HJ.out hJs ((Below.refl _ _).alloc (Nat.le_refl _) _)
      obtain ⟨fn, tmps, assign, body, hy, hR⟩ := HY.out ys ⟨x, hpx⟩ _ hJ1 (by omega)
      dsimp only at hy
      have hsn : (ys ++ [(⟨x, hpx⟩ : { x : Int × Int // p x })]).map (·.1) = l.take (k + 1) := by
        obtain ⟨hk', rfl⟩ := List.getElem?_eq_some_iff.1 HX.out
        rw [List.map_append, HYS.out, List.take_succ_eq_append_getElem hk']; rfl
      have HSN := Lib.hid hsn
      clear hcell hx hlen hsn hJs hJ1
      gi_wp2
      refine hR.mono ?_
      rintro e W3 (⟨rfl, hJ3, hk3⟩ | ⟨rfl, hJx3⟩)
      · gi_wp2
        go_roundw
        case rel => exact ⟨k + 1, _, by omega, by simp, HSN.out, hJ3, (hB.trans (keep1_alloc (hB.lt hb) _)).trans hk3⟩
        case measure => simp [intOf]; omega
      · gi_wp2
        refine bodyPost_ret (results_none rfl _ _ _) rfl ?_
        exact ⟨⟨_, rfl⟩, .inr ⟨_, by rw [HSN.out]; exact List.take_prefix _ _, hJx3⟩⟩
    · obtain rfl : k = l.length := by omega
      gi_wp2
      go_end0
      exact ⟨⟨_, rfl⟩, .inl ⟨_, by rw [HYS.out, List.take_length], hJs⟩⟩

theorem values_seq (p : Int × Int → Prop) (Bs : Nat) (v : Value) (l : List (Int × Int)) (hp : ∀ x ∈ l, p x) (w : World) (hBs : w.cell? ⟨Bs, 0, none⟩ = some v) (hlt : Bs < w.heap.size) (hv : Sl w w.heap.size encIv 2 v l) :
    ∃ b, b < w.heap.size ∧ SeqP 51 #[.pointer (some ⟨Bs, 0, none⟩)] p b l w := by
  obtain ⟨A, c, rfl, hc, hm, hA⟩ := hv
  by_cases h0 : 0 < l.length
  · obtain ⟨b, off, rfl, hb, hcell⟩ := hA h0
    exact ⟨b, hb, fun n hn lp J Jx W hW hJ _ hY h0 => values1_in p n hn lp Bs b _ c l hp J Jx W hJ hY ((hW.cell hlt).trans hBs) (Nat.lt_of_lt_of_le hb hW.size) hc hm (fun _ => ⟨off, rfl, hcell.keep fun o => hW.cell hb⟩) h0⟩
  · exact ⟨Bs, hlt, fun n hn lp J Jx W hW hJ _ hY h1 => values1_in p n hn lp Bs Bs A c l hp J Jx W hJ hY ((hW.cell hlt).trans hBs) (Nat.lt_of_lt_of_le hlt hW.size) hc hm (fun h => absurd h h0) h1⟩

theorem values_any (A : Option Addr) (n c : Nat) (w : World) :
    Calls Try.prog 44 #[.slice A n c] w fun e w' => e = .returned (.func (.func 51) #[] #[.pointer (some ⟨w.heap.size, 0, none⟩)]) ∧ w' = w.alloc (.cells #[.slice A n c] 24) := by
  go_enter Try.func44, Try.ntmps44
  go_wp2
  go_ret
  exact ⟨rfl, rfl⟩

theorem info23 : (Try.prog.info? 23).map (fun i => (i.zero, i.size, i.bytes)) = some (some (.agg #[.int .i64 0, .int .i64 0]), 2, 16) := by kernel_rfl

/-- The call returns a slice of its own that holds the intervals l; nothing that lay has changed. -/
def RetRow (w : World) (l : List (Int × Int)) (e : Ending) (w' : World) : Prop :=
  ∃ v, e = .returned v ∧ w'.ownsRow w.heap.size 23 2 v l.length (l.flatMap encIv) ∧ Below w.heap.size w w'

theorem flat_len (l : List (Int × Int)) : (l.flatMap encIv).length = l.length * 2 := by
  induction l with
  | nil => rfl
  | cons x l ih => simp [List.flatMap_cons, encIv, ih]; omega

theorem encIv_new (W : World) (n : Nat) (hn : n = W.heap.size) (x : Int × Int) : ∀ (j : Nat) (u : Value), (encIv x)[j]? = some u → (W.alloc (.cells #[.int .i64 x.1, .int .i64 x.2] 23)).cell? ((⟨n, 0, none⟩ : Addr).add j) = some u := by
  subst hn
  intro j u h
  rw [add_lit, cell_alloc_new]
  match j, h with
  | 0, h => simpa [encIv] using h
  | 1, h => simpa [encIv] using h
  | j + 2, h => simp [encIv] at h
theorem encIv_one (x : Int × Int) : ∀ u ∈ encIv x, u.oneCell' = true := by
  intro u hu
  simp [encIv] at hu
  rcases hu with rfl | rfl <;> rfl

set_option maxRecDepth 100000 in
set_option maxHeartbeats 4000000 in
theorem appendSeq_any (g : Nat) (lb : Array Value) (p : Int × Int → Prop) (b : Nat) (l : List (Int × Int)) (w : World) (eg : ∀ args w, (callFunc g args).run Try.prog w = .ok (.enter g args) w) (hseq : SeqP g lb p b l w) (hb : b < w.heap.size) (hlen : l.length ≤ 1000000) :
    Calls Try.prog 42 #[.slice none 0 0, .func (.func g) #[] lb] w (RetRow w l) := by
  refine (callsIn_wide (n := 3)).1 ?_
  obtain ⟨i0, hi, hz0, hz1, hz2⟩ := info_parts info23
  have hseq3 := hseq 2 (by omega)
  have HS := Lib.hid hseq3
  have HE := Lib.hid eg
  clear hseq hseq3 eg
  refine callsIn_of_wp_marks Try.func42 rfl trivial ?_ rfl
  simp only [Try.ntmps42, List.size_toArray, List.length_cons, List.length_nil, Nat.reduceAdd, Nat.reduceSub, Array.replicate_succ, Array.replicate_zero, List.push_toArray, List.append_toArray, List.nil_append, List.cons_append]
  gi_wp2
  have bO := Boxed.new w 24 (.slice none 0 0)
  have hB0 : Below w.heap.size w (w.alloc (.cells #[.slice none 0 0] 24)) := (Below.refl _ w).alloc (Nat.le_refl _) _
  refine wpIn_rangeFunc_ownH rfl (by omega) (gf := g) (lb := lb) rfl trivial HE.out HS.out (fun h k => Keep1.trans h k) (keep1_b (by simp; omega)) hB0 (fun _ => rfl)
    (fun pre W => (∃ v, Boxed W w.heap.size 24 v ∧ W.ownsRow w.heap.size 23 2 v pre.length ((pre.map (·.1)).flatMap encIv) ∧ True) ∧ Below w.heap.size w W)
    (fun _ _ _ => False)
    (OwnFrom.and (Own.from (holdsRow_own w.heap.size w.heap.size 24 23 2 (fun pre : List { x : Int × Int // p x } => pre.length) (fun pre => (pre.map (·.1)).flatMap encIv) (fun _ _ => True)) _) (ownFrom_below (Nat.le_refl _) (by simp)))
    (fun _ _ _ _ _ hs _ _ => hs)
    ⟨⟨_, bO, World.ownsRow_nil _ _ _ _, trivial⟩, hB0⟩
    (fun x a' W => ∃ Bx, w.heap.size < Bx ∧ Blk W Bx 23 #[.int .i64 x.1.1, .int .i64 x.1.2] ∧ a' = { tmps := #[.slice none 0 0, .func (.func g) #[] lb, .pointer (some ⟨w.heap.size, 0, none⟩), undef, .slice none 0 0, .pointer (some ⟨Bx, 0, none⟩), .func (.func g) #[] lb, ivV x.1, undef, undef, undef, undef, undef], defers := [] })
    ?hAx ?assign ?body ?done ?stop
  case hAx =>
    rintro x a' _ W W' row ⟨Bx, hBx, hb, he⟩ hg hr
    refine ⟨Bx, hBx, hb.grown hg ?_, he⟩
    intro e
    obtain ⟨_, o, ho, hc⟩ := hr Bx e.symm
    rw [show W.heap[Bx]? = _ from hb] at ho; cases ho; cases hc
  case assign =>
    rintro lp pre x W K ⟨⟨v, hv, hrow, _⟩, hB⟩ hK
    gi_wp2
    exact hK _ _ ((KeepsOthers.alloc _ _).from _) (keep1_alloc (Nat.lt_of_lt_of_le hb hB.size) _) ⟨⟨v, hv.alloc _, hrow.alloc _, trivial⟩, hB.alloc hB.size _⟩ ⟨W.heap.size, hv.lt, Blk.new _ _ _, rfl⟩
  case body =>
    rintro lp pre x a' W hl hr ⟨⟨v, hv, hrow, _⟩, hB⟩ ⟨Bx, hBx, hX, rfl⟩ hlt
    have c0 := hv.cell
    have c1 : W.cell? ⟨Bx, 0, none⟩ = some (.int .i64 x.1.1) := hX.cell 0
    have c2 : W.cell? ⟨Bx, 1, none⟩ = some (.int .i64 x.1.2) := hX.cell 1
    gi_wp2_with (gi_at_builtin; refine wpListIn_append_own _ rfl _ _ 24 rfl w.heap.size 23 i0 (.agg #[.int .i64 0, .int .i64 0]) 2 16 Try.underlying24 hi hz0 hz1 hz2 rfl (by decide) _ _ _ rfl (hrow.alloc _) ⟨W.heap.size, 0, none⟩ 1 1 (encIv x.1) rfl rfl ?c1 ?c2 ?c3 ?c4 ?c5 ?_)
    case c1 => exact encIv_new _ _ rfl _
    case c2 => exact encIv_one _
    case c3 => simp only [maxLen]; omega
    case c4 => omega
    case c5 => have := hB.size; simp; omega
    intro v' w1 hown' hgrow _
    obtain ⟨g', cap', rfl⟩ := ownsRow_succ hown'
    obtain ⟨hv1, hv2, hr2, hk2, hb2⟩ := hv.appended (by decide) hrow hB.size (Nat.le_refl _) hown' hgrow
    have hc1 := hv1.cell
    have hf1 := hv1.frozen
    gi_wp2
    exact ⟨hk2.from _, Keep1.of_below hb2 hb, ⟨_, hv2, by simpa using hr2, trivial⟩, hB.trans hb2⟩
  case done =>
    rintro D ys W hD hS ⟨⟨v, hv, hrow, _⟩, hB⟩ hK
    have c0 := hv.cell
    have HSS := Lib.hid hS
    clear hS
    gi_wp2
    refine ⟨by simp, .inl ⟨_, _, rfl, run_takeDeferred hK, ?_⟩⟩
    refine ⟨_, results_tmp rfl _ _ _, v, rfl, ?_, ?_⟩
    · have := ownsRow_putObj hrow (Obj.deferred none) hK rfl
      rw [HSS.out] at this
      rw [← HSS.out, List.length_map]
      rw [HSS.out]
      exact this
    · exact hB.trans (belowK_b (w := w) (Nat.le_refl _) W D _ _ (by simp at hD; omega) hK rfl rfl)
  case stop =>
    rintro D c pre W _ _ h _
    exact h.elim

theorem collect_any (g : Nat) (lb : Array Value) (p : Int × Int → Prop) (b : Nat) (l : List (Int × Int)) (w : World) (eg : ∀ args w, (callFunc g args).run Try.prog w = .ok (.enter g args) w) (hseq : SeqP g lb p b l w) (hb : b < w.heap.size) (hlen : l.length ≤ 1000000) :
    Calls Try.prog 31 #[.func (.func g) #[] lb] w (RetRow w l) := by
  have H := Lib.hid (appendSeq_any g lb p b l w eg hseq hb hlen)
  clear eg hseq
  go_enter Try.func31, Try.ntmps31
  go_wp2_with (go_at_call 42; refine H.out.mono ?_; rintro e w' ⟨v, rfl, hrow, hB⟩)
  go_ret
  exact ⟨v, rfl, hrow, hB⟩
end Go.Proofs.Ytidaklcinddghaa
