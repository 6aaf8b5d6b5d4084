/- Walks: slices.Values, AppendSeq, Collect, Sorted at integers. -/
import Derived.RangeFuncNested
import Derived.RangeFuncBound
import Derived.RangeFuncCalls
import Derived.RangeFuncLeaves
import Derived.Shelf.Abstract
import Derived.Shelf.RegionOpen
import Derived.OwnWalkIn
import Derived.TacticsInMore
import Derived.LoopNIn
import Derived.LoopIn
import Derived.Maps.AppendAt
import Derived.Test.YtbmdfnifbimfmaaGreatDoorH8
namespace Go.Proofs.YtbmdfnifbimfmaaGreatDoor
open Go.RowKit Go.Sort Go.Shelf
attribute [local go_sem] Oper.semAt_some

/-- Block b is as it was. -/
def Keep1 (b : Nat) (W W' : World) : Prop := W'.heap[b]? = W.heap[b]?
theorem Keep1.cell {b : Nat} {W W' : World} (h : Keep1 b W W') (o : Nat) : W'.cell? ⟨b, o, none⟩ = W.cell? ⟨b, o, none⟩ := World.cell?_of_block (w := W) (a := ⟨b, o, none⟩) h
theorem Keep1.trans {b : Nat} {A B C : World} (h : Keep1 b A B) (k : Keep1 b B C) : Keep1 b A C := Eq.trans k h
theorem keep1_b {b : Nat} {w : World} (hb : b < w.heap.size) (W : World) (l : Nat) (o o' : Obj) (hl : w.heap.size ≤ l) (_ : W.heap[l]? = some o) (_ : o.isCells = false) (_ : o.isWalk = false) : Keep1 b W (W.putObj l o') :=
  World.putObj_heap_other (by omega)
theorem Keep1.of_below {b B : Nat} {W W' : World} (h : Below B W W') (hb : b < B) : Keep1 b W W' := h.block b hb

/-- An iterator value over integers: it hands out the list l, in order, or a beginning of it. -/
def SeqI (g : Nat) (lb : Array Value) (b : Nat) (l : List Int) (w : World) : Prop :=
  ∀ n, 1 ≤ n → SeqStopsK Fence.wide n Tryz.prog g lb (fun x : Int => #[iV x]) (Keep1 b) (fun ys => ys = l) (fun pre => pre <+: l) l.length w

set_option maxRecDepth 100000 in
set_option maxHeartbeats 2000000 in
theorem values1_in (n : Nat) (hn : 1 ≤ n) (lp Bs b : Nat) (A : Option Addr) (c : Nat) (l : List Int) (J Jx : List Int → World → Prop) (W : World)
    (hY : ∀ pre x W, J pre W → pre.length < l.length → YieldAt Fence.wide (n - 1) Tryz.prog lp #[iV x] W fun e W' =>
      (e = .returned (.bool true) ∧ J (pre ++ [x]) W' ∧ Keep1 b W W') ∨ (e = .returned (.bool false) ∧ Jx (pre ++ [x]) W'))
    (hBs : W.cell? ⟨Bs, 0, none⟩ = some (.slice A l.length c)) (hc : l.length ≤ c) (hm : c ≤ maxLen) (hA : 0 < l.length → ∃ off, A = some ⟨b, off, none⟩ ∧ ∀ i x, l[i]? = some x → W.cell? ⟨b, off + i, none⟩ = some (iV x)) (h0 : J [] W) :
    CallsIn Fence.wide n Tryz.prog 95 #[.func (.yield lp) #[] #[], .pointer (some ⟨Bs, 0, none⟩)] W fun e W' => (∃ v, e = .returned v) ∧
      ((∃ ys, ys = l ∧ J ys W') ∨ (∃ pre, pre <+: l ∧ Jx pre W')) := by
  unfold maxLen at hm
  have HA := Lib.hid hA
  have HY := Lib.hid hY
  clear hA hY
  refine callsIn_of_wp Tryz.func95 rfl trivial ?_ rfl
  simp only [Tryz.ntmps95, List.size_toArray, List.length_cons, List.length_nil, Nat.reduceAdd, Nat.reduceSub, Array.replicate_succ, Array.replicate_zero, List.push_toArray, List.append_toArray, List.nil_append, List.cons_append]
  gi_wp2
  gi_loopw [7] (fun i wr => ∃ k : Nat, k ≤ l.length ∧ i = .int .i64 k ∧ J (l.take k) wr ∧ Keep1 b W wr)
    (fun i _ => l.length - (intOf i).toNat)
  case atStart => exact ⟨0, Nat.zero_le _, rfl, h0, rfl⟩
  case round =>
    obtain ⟨k, hk, rfl, hJs, hB⟩ := hrel
    by_cases hlt : k < l.length
    · obtain ⟨off, rfl, hcell⟩ := HA.out (by omega)
      obtain ⟨x, hx⟩ := get_some hlt
      have c0 : wr.cell? ⟨b, off + k, none⟩ = some (.int .i64 x) := (hB.cell _).trans (hcell k x hx)
      have HX := Lib.hid (take_snoc hx)
      obtain ⟨fn, tmps, assign, body, hy, hR⟩ := HY.out _ x _ hJs (by rw [List.length_take]; omega)
      rw [← HX.out] at hR
      clear hcell hx hJs
      gi_wp2
      refine hR.mono ?_
      rintro e W3 (⟨rfl, hJ3, hk3⟩ | ⟨rfl, hJx3⟩)
      · gi_wp2
        go_roundw
        case rel => exact ⟨k + 1, by omega, by simp, hJ3, hB.trans hk3⟩
        case measure => simp [intOf]; omega
      · gi_wp2
        refine bodyPost_ret (results_none rfl _ _ _) rfl ?_
        exact ⟨⟨_, rfl⟩, .inr ⟨_, List.take_prefix _ _, hJx3⟩⟩
    · obtain rfl : k = l.length := by omega
      rw [List.take_length] at hJs
      gi_wp2
      go_end0
      exact ⟨⟨_, rfl⟩, .inl ⟨_, rfl, hJs⟩⟩

theorem values_seq (Bs : Nat) (v : Value) (l : List Int) (w : World) (hBs : w.cell? ⟨Bs, 0, none⟩ = some v) (hlt : Bs < w.heap.size) (hv : SI w v l) :
    ∃ b, b < w.heap.size ∧ SeqI 95 #[.pointer (some ⟨Bs, 0, none⟩)] b l w := by
  obtain ⟨A, c, rfl, hc, hm, hA⟩ := hv.form
  by_cases h0 : 0 < l.length
  · obtain ⟨b, off, rfl, hb, hcell⟩ := hA h0
    exact ⟨b, hb, fun n hn lp J Jx W hW _ _ hY h0 => values1_in n hn lp Bs b _ c l J Jx W hY ((hW.cell hlt).trans hBs) hc hm (fun _ => ⟨off, rfl, fun i x hi => (hW.cell (p := ⟨b, off + i, none⟩) hb).trans (hcell i x hi)⟩) h0⟩
  · exact ⟨Bs, hlt, fun n hn lp J Jx W hW _ _ hY h1 => values1_in n hn lp Bs Bs A c l J Jx W hY ((hW.cell hlt).trans hBs) hc hm (fun h => absurd h h0) h1⟩

theorem values_any (A : Option Addr) (n c : Nat) (w : World) :
    Calls Tryz.prog 72 #[.slice A n c] w fun e w' => e = .returned (.func (.func 95) #[] #[.pointer (some ⟨w.heap.size, 0, none⟩)]) ∧ w' = w.alloc (.cells #[.slice A n c] 23) := by
  go_enter Tryz.func72, Tryz.ntmps72
  go_wp2
  go_ret
  exact ⟨rfl, rfl⟩

set_option maxRecDepth 100000 in
set_option maxHeartbeats 4000000 in
theorem appendSeq_any (g : Nat) (lb : Array Value) (b : Nat) (l : List Int) (w : World) (eg : ∀ args w, (callFunc g args).run Tryz.prog w = .ok (.enter g args) w) (hseq : SeqI g lb b l w) (hb : b < w.heap.size) (hlen : l.length ≤ 1000000) :
    Calls Tryz.prog 105 #[.slice none 0 0, .func (.func g) #[] lb] w (RetI w l) := by
  refine (callsIn_wide (n := 3)).1 ?_
  obtain ⟨i0, hi, hz0, hz1, hz2⟩ := info_parts info3
  have hseq3 := hseq 2 (by omega)
  have HS := Lib.hid hseq3
  have HE := Lib.hid eg
  clear hseq hseq3 eg
  refine callsIn_of_wp_marks Tryz.func105 rfl trivial ?_ rfl
  simp only [Tryz.ntmps105, List.size_toArray, List.length_cons, List.length_nil, Nat.reduceAdd, Nat.reduceSub, Array.replicate_succ, Array.replicate_zero, List.push_toArray, List.append_toArray, List.nil_append, List.cons_append]
  gi_wp2
  have bO := Boxed.new w 23 (.slice none 0 0)
  have hB0 : Below w.heap.size w (w.alloc (.cells #[.slice none 0 0] 23)) := (Below.refl _ w).alloc (Nat.le_refl _) _
  refine wpIn_rangeFunc_ownH rfl (by omega) (gf := g) (lb := lb) rfl trivial HE.out HS.out (fun h k => Keep1.trans h k) (keep1_b (by simp; omega)) hB0 (fun _ => rfl)
    (fun pre W => (∃ v, Boxed W w.heap.size 23 v ∧ W.ownsRow w.heap.size 3 1 v pre.length (pre.map iV) ∧ True) ∧ Below w.heap.size w W)
    (fun _ _ _ => False)
    (OwnFrom.and (Own.from (holdsRow_own w.heap.size w.heap.size 23 3 1 (fun pre : List Int => pre.length) (fun pre => pre.map iV) (fun _ _ => True)) _) (ownFrom_below (Nat.le_refl _) (by simp)))
    (fun _ _ _ _ _ hs _ _ => hs)
    ⟨⟨_, bO, World.ownsRow_nil _ _ _ _, trivial⟩, hB0⟩
    (fun x a' _ => a' = { tmps := #[.slice none 0 0, .func (.func g) #[] lb, .pointer (some ⟨w.heap.size, 0, none⟩), undef, .slice none 0 0, iV x, .func (.func g) #[] lb, iV x, undef, undef, undef, undef, undef], defers := [] })
    ?hAx ?assign ?body ?done ?stop
  case hAx =>
    rintro x a' _ W W' row he hg hr
    exact he
  case assign =>
    rintro lp pre x W K ⟨⟨v, hv, hrow, _⟩, hB⟩ hK
    gi_wp2
    exact hK _ _ (KeepsFrom.refl _ _) rfl ⟨⟨v, hv, hrow, trivial⟩, hB⟩ rfl
  case body =>
    rintro lp pre x a' W hl hr ⟨⟨v, hv, hrow, _⟩, hB⟩ rfl hlt
    have c0 := hv.cell
    gi_wp2_with (gi_at_builtin; refine wpListIn_append_own _ rfl _ _ 23 rfl w.heap.size 3 i0 (.int .i64 0) 1 8 Tryz.underlying23 hi hz0 hz1 hz2 rfl (by decide) _ _ _ rfl (hrow.alloc _) ⟨W.heap.size, 0, none⟩ 1 1 [iV x] rfl rfl ?c1 ?c2 ?c3 ?c4 ?c5 ?_)
    case c1 => exact new1 _ _ rfl _ _
    case c2 => intro y hy; rw [List.mem_singleton.1 hy]; rfl
    case c3 => simp only [maxLen]; omega
    case c4 => omega
    case c5 => have := hB.size; simp; omega
    intro v' w1 hown' hgrow _
    obtain ⟨g', cap', rfl⟩ := ownsRow_succ hown'
    obtain ⟨hv1, hv2, hr2, hk2, hb2⟩ := hv.appended (by decide) hrow hB.size (Nat.le_refl _) hown' hgrow
    have hc1 := hv1.cell
    have hf1 := hv1.frozen
    gi_wp2
    exact ⟨hk2.from _, Keep1.of_below hb2 hb, ⟨_, hv2, by simpa using hr2, trivial⟩, hB.trans hb2⟩
  case done =>
    rintro D ys W hD rfl ⟨⟨v, hv, hrow, _⟩, hB⟩ hK
    have c0 := hv.cell
    gi_wp2
    refine ⟨by simp, .inl ⟨_, _, rfl, run_takeDeferred hK, ?_⟩⟩
    refine ⟨_, results_tmp rfl _ _ _, v, rfl, ownsRow_putObj hrow (Obj.deferred none) hK rfl, ?_⟩
    exact hB.trans (belowK_b (w := w) (Nat.le_refl _) W D _ _ (by simp at hD; omega) hK rfl rfl)
  case stop =>
    rintro D c pre W _ _ h _
    exact h.elim

theorem collect_any (g : Nat) (lb : Array Value) (b : Nat) (l : List Int) (w : World) (eg : ∀ args w, (callFunc g args).run Tryz.prog w = .ok (.enter g args) w) (hseq : SeqI g lb b l w) (hb : b < w.heap.size) (hlen : l.length ≤ 1000000) :
    Calls Tryz.prog 93 #[.func (.func g) #[] lb] w (RetI w l) := by
  have H := Lib.hid (appendSeq_any g lb b l w eg hseq hb hlen)
  clear eg hseq
  go_enter Tryz.func93, Tryz.ntmps93
  go_wp2_with (go_at_call 105; refine H.out.mono ?_; rintro e w' ⟨v, rfl, hrow, hB⟩)
  go_ret
  exact ⟨v, rfl, hrow, hB⟩

noncomputable def sortI (l : List Int) : List Int := l.mergeSort fun x y => decide (x ≤ y)

theorem sortS_any (base : Nat) (v : Value) (l : List Int) (w : World) (h : w.ownsRow base 3 1 v l.length (l.map iV)) (hlen : l.length ≤ 1000000) :
    Calls Tryz.prog 94 #[v] w fun e w' => e = .returned (.tuple #[]) ∧ w'.ownsRow base 3 1 v (sortI l).length ((sortI l).map iV) ∧ w.grownBy w' v.ownBlock := by
  rcases h.2 with ⟨rfl, h0⟩ | ⟨g, cap, cur, rfl, hb, hg, hn, hm, hs, ht⟩
  · have : l = [] := List.eq_nil_of_length_eq_zero h0
    subst this
    refine (Tryz.slices_Sort_int_none none 0 w).mono ?_
    rintro e w' ⟨rfl, rfl⟩
    exact ⟨rfl, by simpa [sortI] using h, World.grownBy.refl _ _⟩
  · have hlt : g < w.heap.size := (Array.getElem?_eq_some_iff.1 hg).1
    refine (Tryz.slices_Sort_int g 0 cap l w (ownsRow_holds h) hlt (by omega)).mono ?_
    rintro e w' ⟨rfl, n, os, rfl⟩
    have hsz : (sortI l).toArray.size = l.length := by simp [sortI, List.length_mergeSort]
    obtain ⟨ho, hgr⟩ := ownsRow_sort (d' := (sortI l).toArray) hsz h n os
    exact ⟨rfl, by simp at ho; exact ho, hgr⟩

theorem sorted_anyI (g : Nat) (lb : Array Value) (b : Nat) (l : List Int) (w : World) (eg : ∀ args w, (callFunc g args).run Tryz.prog w = .ok (.enter g args) w) (hseq : SeqI g lb b l w) (hb : b < w.heap.size) (hlen : l.length ≤ 1000000) :
    Calls Tryz.prog 71 #[.func (.func g) #[] lb] w (RetI w (sortI l)) := by
  have H := Lib.hid (collect_any g lb b l w eg hseq hb hlen)
  clear eg hseq
  go_enter Tryz.func71, Tryz.ntmps71
  go_wp2_with (go_at_call 93; refine H.out.mono ?_; rintro e w' ⟨v, rfl, hrow, hB⟩)
  go_wp2_with (go_at_call 94; refine (sortS_any _ _ l _ hrow hlen).mono ?_; rintro e w1 ⟨rfl, hrow1, hg⟩)
  go_ret
  exact ⟨v, rfl, hrow1, hB.grown hg hB.size fun k e => (hrow.lt k e).1⟩
end Go.Proofs.YtbmdfnifbimfmaaGreatDoor
