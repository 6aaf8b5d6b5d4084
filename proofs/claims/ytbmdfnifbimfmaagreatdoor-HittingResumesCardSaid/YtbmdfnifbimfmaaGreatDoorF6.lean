/- Walks: newFamily, the walk. -/
import Derived.Test.YtbmdfnifbimfmaaGreatDoorF5
import Derived.Laws.MakeOwn
namespace Go.Proofs.YtbmdfnifbimfmaaGreatDoor
open Go.RowKit

theorem step_put {P : Program} {k : TypeId} {κ : Type} [DecidableEq κ] (w : World) {ops : Array Oper} {o : Oper} {a : Act} {K' : Act → World → Prop} {Q : Exit → Act → World → Prop} {E : Prop}
    (hg : o.guard = none) (m x v : Operand) (t : TypeId) (hop : o.op = Op.mapUpdate t m x v) (e : TypeId) (K : KK P k κ) (ht : P.underlying t = some (.map k e)) (b n : Nat) (f : κ → Option Value)
    (hm : a.eval m = .map (some b)) (hown : MapF w K b n f) (hn : n < maxLen) (y : κ) (hy : K.ok y) (u : Value) (hx : a.eval x = K.kv y) (hv : a.eval v = u)
    (hK : ∀ w', MapF w' K b (n + 1) (upd f y (some u)) → w.grownBy w' (some b) → K' (a.put o.dst undef) w') :
    if Region.wanted o (yielded ops a.tmps) = true then Oper.wp P o a w K' Q else E := by
  have hw : Region.wanted o (yielded ops a.tmps) = true := by simp [Region.wanted, hg]
  rw [if_pos hw]
  obtain ⟨w', hrun, r1, r2⟩ := hown.put ht hn hy u
  unfold Oper.wp
  simp [execOp, hop, hm, hx, hv, hrun, Result.andThen]
  exact hK w' r1 r2

theorem made_zero (n : Nat) (S : List (List Int)) (hn : n = S.length) : (madeCells (Value.int .i64 0).cells (n * 1)).toList = (hitsL S []).map iV := by
  subst hn
  apply List.ext_getElem?
  intro i
  unfold madeCells hitsL
  rw [Nat.mul_one]
  rcases Nat.lt_or_ge i S.length with h | h
  · obtain ⟨s, hs⟩ := get_some h
    have hm : ((Value.int .i64 0).cells)[i % ((Value.int .i64 0).cells).size]! = .int .i64 0 := by
      have h1 : i % ((Value.int .i64 0).cells).size = 0 := Nat.mod_one i
      rw [h1]; rfl
    simp [h, hm, cnt]
  · simp [h]

def NewPost (w : World) (L : List (List Int)) (e : Ending) (w' : World) : Prop :=
  ∃ K : FK, e = .returned K.p ∧ K.base0 = w.heap.size ∧ K.base = w'.heap.size ∧ IsMin L K.S ∧ Fam K w' [] (fun _ => true) ∧ Below w.heap.size w w'

theorem NF.fam {w w0 wr : World} {vs : Value} {ps : List (Value × List Int)} {S : List (List Int)} (hps : ps.map (·.2) = S) (hO : OwnP w0 w.heap.size vs ps) (hN : ∀ p ∈ ps, NewB w.heap.size p.1) (hB : Below w.heap.size w w0) (hv : ValidAll S) (hl : S.length ≤ 900) (h : NF w0 vs S (pairs S S.length) wr) :
    Fam ⟨w0.heap.size + 1 + 1, vs, w0.heap.size, w0.heap.size + 1 + 1 + 1, S.length, w0.heap.size + 1, S, w.heap.size, wr.heap.size⟩ wr [] (fun _ => true) := by
  obtain ⟨h1, h2, h3, h4, h5, wv, h6, h7⟩ := h
  have hs := hB.size
  have hfl : S.flatten.length ≤ 1000000 := by
    have := flatten_len (m := 1024) (L := S) fun l hl => valid_len (hv l hl)
    omega
  refine ⟨⟨⟨by simp only; omega, by simp only; omega⟩, ⟨by simp only; omega, by simp only; omega⟩, ⟨⟨by simp only; omega, by simp only; omega⟩, by simp only; omega, by simp only; omega, by simp only; omega⟩, ⟨by simp only; omega, by simp only; omega⟩, ⟨by simp only; omega, by simp only; omega⟩, ⟨by simp only; omega, by simp only; omega, by simp only; omega⟩,
    ⟨ps, hps, own_block hO.1 fun g hg => h1.block g (hO.1.lt g hg).2, fun g hg => ?_, fun p hp => ⟨(hO.2 p hp).1.up h1, hN p hp, ?_⟩⟩, ⟨wv, _, h6.congr fun x _ => ?_, fun x hx => ?_⟩, hv, ⟨by simp only; omega, hfl⟩⟩, ⟨⟨_, h3, World.ownsRow_nil _ _ _ _⟩, ?_, ?_⟩⟩
  · have := (hO.1.lt g hg).2
    refine ⟨?_, ?_, ?_, ?_⟩ <;> simp only <;> omega
  · refine ⟨fun a n c e hn => ?_, fun a n c e hn => ?_, fun a n c e hn => ?_, fun a n c e hn => ?_⟩
    · have := (hO.2 p hp).1.block_lt e hn; simp only; omega
    all_goals (have := (hO.2 p hp).1.block_lt e hn; intro e'; injection e' with e'; simp only at e'; omega)
  · unfold withD withF
    have := pairs_mem S x
    by_cases hx : x ∈ S.flatten
    · rw [if_pos hx, if_pos (this.2 hx)]
    · rw [if_neg hx, if_neg (fun h => hx (this.1 h))]
  · have ho := h7.own x
    rw [idxD_all hv] at ho
    have hlt : ∀ a n c, wv x = .slice (some a) n c → 0 < n → w0.heap.size + 4 ≤ a.block ∧ a.block < wr.heap.size := fun a n c e hn => ⟨newB_of_own ho (Nat.le_refl _) a n c e hn, SI.block_lt (own_S1 ho) e hn⟩
    refine ⟨own_S1 ho, fun a n c e hn => ?_, fun a n c e hn => ?_, fun a n c e hn => ?_, fun a n c e hn => ?_, fun a n c e hn => ?_⟩
    · have := hlt a n c e hn; simp only; omega
    · have := hlt a n c e hn; simp only; omega
    all_goals (have := hlt a n c e hn; intro e'; injection e' with e'; simp only at e'; omega)
  · exact ownsRow_base' h4 (by simp only; omega)
  · rw [pairs_len_all] at h5
    refine h5.congr fun x _ => ?_
    unfold freeD freeF
    have := pairs_mem S x
    by_cases hx : x ∈ S.flatten
    · rw [if_pos hx, if_pos (this.2 hx)]
    · rw [if_neg hx, if_neg (fun h => hx (this.1 h))]

theorem NF.start (w0 : World) (vs : Value) (S : List (List Int)) (hl : S.length ≤ 900) {n : Nat} (hn : n = S.length) : NF w0 vs S (pairs S 0)
    ((((w0.alloc (.map #[] 0)).alloc (.map #[] 0)).alloc (.cells #[vs, .map (some w0.heap.size), .slice (some ⟨w0.heap.size + 1 + 1 + 1, 0, none⟩) S.length S.length, .map (some (w0.heap.size + 1)), .slice none 0 0] 71)).alloc (.cells (madeCells (Value.int .i64 0).cells n) 3)) := by
  obtain ⟨cs, hcs⟩ : ∃ cs : Array Value, cs = #[vs, .map (some w0.heap.size), .slice (some ⟨w0.heap.size + 1 + 1 + 1, 0, none⟩) S.length S.length, .map (some (w0.heap.size + 1)), .slice none 0 0] := ⟨_, rfl⟩
  have hn' : n = S.length * 1 := by omega
  subst hn'
  rw [← hcs]
  have e1 : (w0.alloc (.map #[] 0)).heap.size = w0.heap.size + 1 := by simp
  have e2 : ((w0.alloc (.map #[] 0)).alloc (.map #[] 0)).heap.size = w0.heap.size + 1 + 1 := by simp
  have e3 : (((w0.alloc (.map #[] 0)).alloc (.map #[] 0)).alloc (.cells cs 71)).heap.size = w0.heap.size + 1 + 1 + 1 := by simp
  have m1 := MapF.made w0 K3
  have m2 := MapF.made (w0.alloc (.map #[] 0)) K3
  rw [e1] at m2
  have hblk := (Blk.newAt ((w0.alloc (.map #[] 0)).alloc (.map #[] 0)) 71 cs e2.symm).alloc (.cells (madeCells (Value.int .i64 0).cells (S.length * 1)) 3)
  have hrow := World.ownsRow_lit (e := 3) (size := 1) (((w0.alloc (.map #[] 0)).alloc (.map #[] 0)).alloc (.cells cs 71)) (madeCells (Value.int .i64 0).cells (S.length * 1)) S.length (base := w0.heap.size + 1 + 1 + 1) (by rw [e3]; exact Nat.le_refl _) (by simp [maxLen]; omega) (size_madeCells _ _)
  rw [e3, made_zero _ S rfl] at hrow
  refine ⟨?_, ?_, ?_, hrow, ?_, fun _ => .slice none 0 0, ?_, ⟨fun x => ?_, fun _ _ => rfl, fun _ _ _ _ e => by cases e⟩⟩
  · exact (((Below.refl _ w0).alloc (Nat.le_refl _) _).alloc (by rw [e1]; omega) _).alloc (by rw [e2]; omega) _ |>.alloc (by rw [e3]; omega) _
  · simp
  · rw [← hcs]; exact hblk
  · have := (m2.alloc (.cells cs 71)).alloc (.cells (madeCells (Value.int .i64 0).cells (S.length * 1)) 3)
    exact this.congr fun x _ => by simp [freeD, pairs]
  · have := ((m1.alloc (.map #[] 0)).alloc (.cells cs 71)).alloc (.cells (madeCells (Value.int .i64 0).cells (S.length * 1)) 3)
    exact this.congr fun x _ => by simp [withD, pairs]
  · exact World.ownsRow_nil _ _ _ _
theorem NF.cells {w0 : World} {vs : Value} {S : List (List Int)} {D : List (Nat × Int)} {wr : World} (h : NF w0 vs S D wr) : wr.cell? ⟨w0.heap.size + 1 + 1, 1, none⟩ = some (.map (some w0.heap.size)) ∧ wr.cell? ⟨w0.heap.size + 1 + 1, 3, none⟩ = some (.map (some (w0.heap.size + 1))) := ⟨h.blk.cell 1, h.blk.cell 3⟩
theorem WRows.drew {B : Nat} {w : World} {D : List (Nat × Int)} {wv : Int → Value} (h : WRows B w D wv) : WRows B w.drew D wv := ⟨h.own, h.out, h.ne⟩
theorem NF.alloc {w0 : World} {vs : Value} {S : List (List Int)} {D : List (Nat × Int)} {wr : World} (h : NF w0 vs S D wr) (o : Obj) : NF w0 vs S D (wr.alloc o) := by
  obtain ⟨wv, h1, h2⟩ := h.wth
  exact ⟨bAl h.low o, by have := h.size; simp; omega, h.blk.alloc o, h.hits.alloc o, h.free.alloc o, wv, h1.alloc o, h2.alloc o⟩
/-- Behind the put into with. -/
theorem NF.put1 {w0 : World} {vs : Value} {S : List (List Int)} {D : List (Nat × Int)} {w1 w2 w3 : World} (h : NF w0 vs S D w1) {wv : Int → Value} (hw : WRows (w0.heap.size + 4) w1 D wv) {i : Nat} {x : Int} {v : Value} {n : Nat} {xs : List Value} (hn : n = (idxD D x).length + 1) (hxs : xs = (idxD D x).map iV ++ [iV i])
    (ho : w2.ownsRow (w0.heap.size + 4) 3 1 v n xs) (hg : w1.grownBy w2 (wv x).ownBlock) (hat : v.ownBlock = (wv x).ownBlock ∨ v.ownBlock = some w1.heap.size)
    (hm : MapF w3 K3 w0.heap.size (D.length + 1) (upd (withD D wv) x (some v))) (hg2 : w2.grownBy w3 (some w0.heap.size)) :
    Below w0.heap.size w0 w3 ∧ w0.heap.size + 4 ≤ w3.heap.size ∧ Blk w3 (w0.heap.size + 1 + 1) 71 #[vs, .map (some w0.heap.size), .slice (some ⟨w0.heap.size + 1 + 1 + 1, 0, none⟩) S.length S.length, .map (some (w0.heap.size + 1)), .slice none 0 0] ∧
      w3.ownsRow (w0.heap.size + 1 + 1 + 1) 3 1 (.slice (some ⟨w0.heap.size + 1 + 1 + 1, 0, none⟩) S.length S.length) S.length ((hitsL S []).map iV) ∧ MapF w3 K3 (w0.heap.size + 1) D.length (freeD D) ∧
      ∃ wv, MapF w3 K3 w0.heap.size (D ++ [(i, x)]).length (withD (D ++ [(i, x)]) wv) ∧ WRows (w0.heap.size + 4) w3 (D ++ [(i, x)]) wv := by
  have hk : ∀ k, k < w0.heap.size + 4 → k ≠ w0.heap.size → w3.heap[k]? = w1.heap[k]? := fun k hk hne => by
    have hs1 := h.size
    have hs2 := hg.size
    refine (hg2.block k (by omega) (fun e => hne (Option.some.inj e))).trans (hg.block k (by omega) fun e => ?_)
    have := ((hw.own x).lt k e.symm).1
    omega
  have hb1 : Below w0.heap.size w0 w2 := h.low.grown hg (by have := h.size; omega) (fun k e => by have := ((hw.own x).lt k e).1; omega)
  have hb2 : Below w0.heap.size w0 w3 := hb1.grown hg2 (by have := hb1.size; omega) (fun k e => by injection e with e; omega)
  refine ⟨hb2, by have := h.size; have := hg.size; have := hg2.size; omega, h.blk.block (hk _ (by omega) (by omega)), own_block h.hits fun g hg => ?_, h.free.block (hk _ (by omega) (by omega)), updV wv x v, ?_, (hw.step hn hxs ho hg hat).kept hg2 fun k e => by injection e with e; omega⟩
  · cases hg; exact hk (w0.heap.size + 1 + 1 + 1) (by omega) (by omega)
  · rw [← withD_snoc]
    simpa using hm
theorem NF.put2 {w0 : World} {vs : Value} {S : List (List Int)} {D : List (Nat × Int)} {w3 w4 : World} {i : Nat} {x : Int} (h1 : Below w0.heap.size w0 w3) (h2 : w0.heap.size + 4 ≤ w3.heap.size)
    (h3 : Blk w3 (w0.heap.size + 1 + 1) 71 #[vs, .map (some w0.heap.size), .slice (some ⟨w0.heap.size + 1 + 1 + 1, 0, none⟩) S.length S.length, .map (some (w0.heap.size + 1)), .slice none 0 0])
    (h4 : w3.ownsRow (w0.heap.size + 1 + 1 + 1) 3 1 (.slice (some ⟨w0.heap.size + 1 + 1 + 1, 0, none⟩) S.length S.length) S.length ((hitsL S []).map iV))
    (h5 : ∃ wv, MapF w3 K3 w0.heap.size (D ++ [(i, x)]).length (withD (D ++ [(i, x)]) wv) ∧ WRows (w0.heap.size + 4) w3 (D ++ [(i, x)]) wv)
    (hm : MapF w4 K3 (w0.heap.size + 1) (D.length + 1) (upd (freeD D) x (some (.bool true)))) (hg : w3.grownBy w4 (some (w0.heap.size + 1))) : NF w0 vs S (D ++ [(i, x)]) w4 := by
  obtain ⟨wv, h6, h7⟩ := h5
  have hk : ∀ k, k < w0.heap.size + 4 → k ≠ w0.heap.size + 1 → w4.heap[k]? = w3.heap[k]? := fun k hk hne => hg.block k (by omega) (fun e => hne (Option.some.inj e))
  refine ⟨h1.grown hg (by omega) (fun k e => by injection e with e; omega), by have := hg.size; omega, h3.block (hk _ (by omega) (by omega)), own_block h4 fun g hg => ?_, ?_, wv, h6.block (hk _ (by omega) (by omega)), h7.kept hg fun k e => by injection e with e; omega⟩
  · cases hg; exact hk (w0.heap.size + 1 + 1 + 1) (by omega) (by omega)
  · rw [← freeD_snoc]
    simpa using hm

set_option maxRecDepth 100000 in
set_option maxHeartbeats 4000000 in
theorem newFamily_any (v : Value) (L : List (List Int)) (w : World) (h : SS w v L) (hv : ValidAll L) (hl : L.length ≤ 900) (ht : Tab w) : Calls Tryz.prog 33 #[v] w (NewPost w L) := by
  have hwS : wfS L := fun l hl x hx => by have := (hv l hl).1 x hx; exact wfI_of (by omega) (by omega)
  have HMIN := Lib.hid (minimal_any v L w h hwS (fun l hl => (hv l hl).2) (by omega) (fun l hl => by have := valid_len (hv l hl); omega) ht)
  have HV := Lib.hid hv
  clear h hv ht hwS
  have hmm := @run_makeMap Tryz.prog
  obtain ⟨i0, hi, hz0, hz1, hz2⟩ := info_parts info3
  go_enter Tryz.func33, Tryz.ntmps33
  go_wp2_with fail
  refine HMIN.out.mono ?_
  rintro e w0 ⟨vs, ps, rfl, ⟨hO, hN⟩, hM, hpl, hB⟩
  obtain ⟨S, hS⟩ : ∃ S, ps.map (·.2) = S := ⟨_, rfl⟩
  rw [hS] at hM
  have hSl : ps.length = S.length := by rw [← hS, List.length_map]
  obtain ⟨A, c, hvs⟩ := own_form hO.1
  rw [hSl] at hpl hvs
  subst hvs
  have HO := Lib.hid hO
  have HN := Lib.hid hN
  have HM := Lib.hid hM
  have HS := Lib.hid hS
  have HB := Lib.hid hB
  have HSL := Lib.hid hSl
  clear hO hN hM hS hB hSl
  have hms : ∀ W : World, (Instr.makeSlice 23 (.int .i64 (S.length : Int)) (.int .i64 (S.length : Int))).run Tryz.prog W = .ok (.slice (some ⟨W.heap.size, 0, none⟩) S.length S.length) (W.alloc (.cells (madeCells (Value.int .i64 0).cells (S.length * 1)) 3)) := fun W => by
    have h1 : i0.size = 1 := hz1
    have := run_make (P := Tryz.prog) W 23 3 i0 (.int .i64 0) Tryz.underlying23 hi hz0 .i64 .i64 S.length S.length (by omega) (Int.le_refl _) (by rw [hz2]; omega) (by omega)
    simpa [h1] using this
  go_wp2_with fail
  go_loopw [27] (fun i wr => ∃ k : Nat, k ≤ S.length ∧ i = .int .i64 k ∧ Hid (NF w0 (.slice A S.length c) S (pairs S k) wr)) (fun i _ => S.length - (intOf i).toNat)
  case atStart => exact ⟨0, Nat.zero_le _, rfl, Lib.hid (NF.start w0 _ S (by omega) (by omega))⟩
  case round =>
    obtain ⟨k, hk, rfl, HR⟩ := hrel
    by_cases hlt : k < S.length
    · obtain ⟨s, hs⟩ := get_some hlt
      obtain ⟨A9, c9, hf1, _, _, hA1⟩ := HO.out.ss.form
      rw [HS.out] at hf1 hA1
      obtain ⟨hA9, rfl⟩ : A9 = A ∧ c = c9 := by injection hf1 with h1 h2 h3; exact ⟨h1.symm, h3⟩
      subst hA9
      obtain ⟨b1, o1, rfl, hb1, hcell⟩ := hA1 (by omega)
      obtain ⟨u, d0, hu⟩ := hcell k s hs
      have d1 := (HR.out.low.cell (p := ⟨b1, o1 + k, none⟩) hb1).trans d0
      obtain ⟨Au, cu, rfl⟩ := SI.slice_form hu
      have HU := Lib.hid hu
      have HSK := Lib.hid hs
      have HVS : Hid (Valid s) := Lib.hid (HV.out s (((HM.out.2 s).1 (List.mem_of_getElem? hs)).1))
      have hsl := valid_len HVS.out
      clear hf1 hA1 hcell d0 hu hs
      have q1 : (0 : Int) ≤ (k : Int) := by omega
      have q2 : (k : Int) < (S.length : Int) := by omega
      go_wp2_with fail
      clear d1
      go_loopw [34] (fun i wr => ∃ j : Nat, j ≤ s.length ∧ i = .int .i64 j ∧ Hid (NF w0 (.slice (some ⟨b1, o1, none⟩) S.length c) S (pairsTo S k j) wr)) (fun i _ => s.length - (intOf i).toNat)
      case atStart => exact ⟨0, Nat.zero_le _, rfl, Lib.hid (by rw [pairsTo_zero]; exact HR.out)⟩
      case round =>
        clear HR
        obtain ⟨j, hj, rfl, HR⟩ := hrel
        by_cases hjl : j < s.length
        · obtain ⟨x, hx⟩ := get_some hjl
          obtain ⟨_, _, hf2, _, _, hA2⟩ := HU.out.form
          obtain ⟨rfl, rfl⟩ : _ = Au ∧ _ = cu := by injection hf2 with h1 h2 h3; exact ⟨h1.symm, h3.symm⟩
          obtain ⟨b2, o2, rfl, hb2, hc2⟩ := hA2 (by omega)
          have d2 := (HR.out.low.cell (p := ⟨b2, o2 + j, none⟩) hb2).trans (hc2 j x hx)
          have HX := Lib.hid hx
          have hxv := HVS.out.1 x (List.mem_of_getElem? hx)
          have HXW : Hid (wfI x) := Lib.hid (wfI_of (by omega) (by omega))
          have HPL := Lib.hid (Nat.le_trans (pairsTo_len (j := j) HSK.out) (show S.flatten.length ≤ 1000000 from by
            have := flatten_len (m := 1024) (L := S) fun l hl => valid_len (HV.out l ((HM.out.2 l).1 hl).1)
            omega))
          clear hf2 hA2 hc2 hx
          go_upto_region 9 with (fail)
          obtain ⟨wv, hm, hwr⟩ := HR.out.wth
          have HMW := Lib.hid hm
          have HWR := Lib.hid hwr
          obtain ⟨A3, c3, hwx⟩ := own_form (hwr.own x)
          have HLK : Hid (∀ W : World, W.heap[w0.heap.size]? = wr.heap[w0.heap.size]? → (Instr.lookup 69 (.map (some w0.heap.size)) (.int .i64 x) false).run Tryz.prog W = .ok (.slice A3 (idxD (pairsTo S k j) x).length c3) W) := Lib.hid fun W hW => by
            have := (HMW.out.block hW).look Tryz.underlying69 (Tryz.zeroValue23 W) HXW.out
            unfold withD at this
            rw [← hwx]
            by_cases hin : x ∈ (pairsTo S k j).map (·.2)
            · rw [if_pos hin] at this; exact this
            · rw [if_neg hin] at this
              rw [HWR.out.out x hin]; exact this
          have HWX := Lib.hid hwx
          have hsz := HR.out.size
          have a1 : wr.cell? ⟨w0.heap.size + 1 + 1, 1, none⟩ = some (.map (some w0.heap.size)) := HR.out.cells.1
          have l1 := HLK.out wr.drew rfl
          have l2 := HLK.out (wr.alloc (.cells #[.int .i64 (k : Int)] 3)).drew (Below.heap_alloc wr _ _ (by omega))
          have HRX : Hid (wr.ownsRow (w0.heap.size + 4) 3 1 (.slice A3 (idxD (pairsTo S k j) x).length c3) (idxD (pairsTo S k j) x).length ((idxD (pairsTo S k j) x).map iV)) := Lib.hid (by rw [← hwx]; exact hwr.own x)
          have hil : (idxD (pairsTo S k j) x).length ≤ 1000000 := by
            have := HPL.out
            unfold idxD
            rw [List.length_map]
            exact Nat.le_trans (List.length_filter_le _ _) this
          clear hm hwr hwx
          have hne4 : ∀ g, g < w0.heap.size + 4 → some g ≠ (Value.slice A3 (idxD (pairsTo S k j) x).length c3).ownBlock := fun g hg e => by have := (HRX.out.lt g e.symm).1; omega
          have HC4 : Hid (∀ (o : Obj) (W : World), (wr.alloc o).drew.grownBy W (Value.slice A3 (idxD (pairsTo S k j) x).length c3).ownBlock → W.cell? ⟨w0.heap.size + 1 + 1, 1, none⟩ = some (.map (some w0.heap.size))) := Lib.hid fun o W hg =>
            (World.cell?_of_block (w := (wr.alloc o).drew) (a := ⟨w0.heap.size + 1 + 1, 1, none⟩) (hg.block _ (show w0.heap.size + 1 + 1 < (wr.alloc o).drew.heap.size from by simp; omega) (hne4 _ (by simp only; omega)))).trans (cell_al a1 o)
          have HMW4 : Hid (∀ (o : Obj) (W : World), (wr.alloc o).drew.grownBy W (Value.slice A3 (idxD (pairsTo S k j) x).length c3).ownBlock → MapF W K3 w0.heap.size (pairsTo S k j).length (withD (pairsTo S k j) wv)) := Lib.hid fun o W hg => (HMW.out.alloc o).drew.kept hg (hne4 _ (by omega))
          have HZ4 : Hid (∀ (o : Obj) (W : World), (wr.alloc o).drew.grownBy W (Value.slice A3 (idxD (pairsTo S k j) x).length c3).ownBlock → w0.heap.size + 1 + 1 < W.heap.size) := Lib.hid fun o W hg => by have := hg.size; simp at this; omega
          have HP4 : Hid ((pairsTo S k j).length < maxLen) := Lib.hid (by have := HPL.out; simp only [maxLen]; omega)
          have HNE : Hid (some (w0.heap.size + 1 + 1) ≠ some w0.heap.size) := Lib.hid (fun e => by injection e; omega)
          clear hne4
          go_region_held3 (fun W => W.cell? ⟨w0.heap.size + 1 + 1, 1, none⟩ = some (.map (some w0.heap.size))) (first | exact a1 | exact cell_al a1 _ | exact a4 | exact a5)
            (first
              | (refine step_append_sl _ (enc1 iV) rfl (.tmp 48) (.tmp 50) 23 rfl (w0.heap.size + 4) 3 i0 (.int .i64 0) 1 8 Tryz.underlying23 hi hz0 hz1 hz2 rfl (by decide) _ _ _ rfl (HRX.out.alloc _) _ _ [(k : Int)] (fun _ => rfl) rfl (S1.lit wr wr.heap.size rfl 3 #[.int .i64 (k : Int)] iV [(k : Int)] 1 rfl rfl (by simp [maxLen])) (fun x _ u hu => by (rw [List.mem_singleton.1 hu]; rfl)) ?c1 ?c2 ?c3 ?_; (case c1 => (simp only [maxLen, List.length_singleton]; omega)); (case c2 => (simp only [List.length_singleton]; omega)); (case c3 => (simp; omega));
                 intro v4 w4 hown4 hgrow4 hat4;
                 have HO4 := Lib.hid hown4;
                 have HG4 := Lib.hid hgrow4;
                 have HA4 := Lib.hid hat4;
                 have a4 : w4.cell? ⟨w0.heap.size + 1 + 1, 1, none⟩ = some (.map (some w0.heap.size)) := HC4.out _ _ hgrow4;
                 obtain ⟨w5, hr5, hm5, hg5⟩ := (HMW4.out _ _ hgrow4).put Tryz.underlying69 HP4.out HXW.out v4;
                 have HM5 := Lib.hid hm5;
                 have HG5 := Lib.hid hg5;
                 have hr6 : (Instr.mapUpdate 69 (.map (some w0.heap.size)) (iV x) v4).run Tryz.prog w4 = .ok () w5 := hr5;
                 have a5 : w5.cell? ⟨w0.heap.size + 1 + 1, 1, none⟩ = some (.map (some w0.heap.size)) := (World.cell?_of_block (w := w4) (a := ⟨w0.heap.size + 1 + 1, 1, none⟩) (hg5.block _ (HZ4.out _ _ HG4.out) (HNE.out))).trans a4;
                 clear hown4 hgrow4 hat4 hm5 hg5 hr5)
              | fail)
          all_goals
            clear a1 l1 l2 hr6 a4 a5 HC4 HMW4 HZ4 HNE HLK
            obtain ⟨hB5, hz5, hb5, hh5, hf5, hx5⟩ := NF.put1 (i := k) (x := x) (v := v4) ((HR.out.alloc _).drew) ((HWR.out.alloc _).drew) rfl rfl HO4.out (by rw [HWX.out]; exact HG4.out) (by rw [HWX.out]; exact HA4.out) HM5.out HG5.out
            have d5 := hb5.cell 3
            have HB5 := Lib.hid hB5
            have HBL5 := Lib.hid hb5
            have HH5 := Lib.hid hh5
            have HF5 := Lib.hid hf5
            have HX5 := Lib.hid hx5
            clear hB5 hb5 hh5 hf5 hx5 HO4 HG4 HA4 HM5 HG5 HWR HMW HRX HWX
            go_wp2_with (at_mapUpdate; refine wpList_put _ rfl _ _ _ 68 rfl 4 K3 Tryz.underlying68 (w0.heap.size + 1) _ _ rfl HF5.out HP4.out x HXW.out (.bool true) rfl rfl ?_)
            intro w6 hm6 hg6
            have HN6 := Lib.hid (NF.put2 (i := k) HB5.out hz5 HBL5.out HH5.out HX5.out hm6 hg6)
            clear hm6 hg6 HB5 HBL5 HH5 HF5 HX5 hz5 d5
            go_wp2_with fail
            go_roundw
            case rel => exact ⟨j + 1, by omega, by go_num, Lib.hid (by rw [pairsTo_succ HSK.out HX.out]; exact HN6.out)⟩
            case measure => simp [intOf]; omega
        · obtain rfl : j = s.length := by omega
          go_wp2_with fail
          go_roundw
          case rel => exact ⟨k + 1, by omega, by go_num, Lib.hid (by rw [← pairsTo_full HSK.out]; exact HR.out)⟩
          case measure => simp [intOf]; omega
    · obtain rfl : k = S.length := by omega
      go_wp2_with fail
      go_ret
      have hvS : ValidAll S := fun l hl => HV.out l ((HM.out.2 l).1 hl).1
      exact ⟨_, rfl, rfl, rfl, HM.out, NF.fam HS.out HO.out HN.out HB.out hvS (by omega) HR.out, bAfter HB.out HR.out.low⟩
end Go.Proofs.YtbmdfnifbimfmaaGreatDoor
