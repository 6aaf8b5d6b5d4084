import Derived.Test.YtidaklcinddghaaA7
namespace Go.Proofs.Ytidaklcinddghaa
open Go.RowKit Go.Shelf
attribute [local go_sem] Oper.semAt_some

/-- What Inside computes, where the sorted list is l'. -/
def RetInside (w : World) (i : Int × Int) (l : List (Int × Int)) (e : Ending) (w' : World) : Prop :=
  ∃ l' : List (Int × Int), (bothE i l = 0 → l'.Perm l ∧ l'.Pairwise (fun x y => x.1 ≤ y.1)) ∧ (bothE i l ≠ 0 → l' = []) ∧
    e = .returned (.tuple #[.bool ((joinL l').any (withinB i)), .int .i64 (bothE i l)]) ∧ Below w.heap.size w w'

set_option maxRecDepth 100000 in
set_option maxHeartbeats 4000000 in
theorem Inside_no (i : Int × Int) (v : Value) (l : List (Int × Int)) (w : World) (h : SlIv w v l) (hk : bothE i l ≠ 0) :
    Calls Try.prog 13 #[ivV i, v] w (RetInside w i l) := by
  have H := Lib.hid h
  clear h
  obtain ⟨k, hke⟩ : ∃ k, bothE i l = k := ⟨_, rfl⟩
  have HK := Lib.hid hke
  have hk1 : (k != 0) = true := neq_int_true (by rw [← hke]; exact hk)
  have HN := Lib.hid hk
  clear hk hke
  go_enter Try.func13, Try.ntmps13
  go_wp2_with fail
  refine (check_any i _).mono ?_
  rintro e w1 ⟨rfl, hB1⟩
  have hBa := bAfter (bAl (bAl (bAl (Below.refl _ w) _) _) _) hB1
  have b1 : Blk w1 (w.heap.size + 1) 4 #[.bool false] := bk hB1 ((Blk.newAt _ _ _ (by simp)).alloc _)
  have b2 : Blk w1 (w.heap.size + 1 + 1) 26 #[.int .i64 0] := bk hB1 (Blk.newAt _ _ _ (by simp))
  clear hB1
  go_wp2_with fail
  refine (checkAll_any _ l _ ((H.out.below hBa).more hBa.size)).mono ?_
  rintro e w2 ⟨rfl, hB2⟩
  replace b1 := bk hB2 b1
  replace b2 := bk hB2 b2
  replace hBa := bAfter hBa hB2
  clear hB2
  go_wp2_with fail
  refine (or_any _ (chk i) (chkAll l) _ ((Blk.new _ _ _).cell 0) ((Blk.new _ _ _).cell 1)).mono ?_
  rintro e w3 ⟨rfl, hB3⟩
  replace b1 := bk hB3 (b1.alloc _)
  replace b2 := bk hB3 (b2.alloc _)
  replace hBa := bAfter (bAl hBa _) hB3
  clear hB3
  rw [show orE (chk i) (chkAll l) = k from HK.out]
  have c1 : w3.cell? ⟨w.heap.size + 1, 0, none⟩ = some (.bool false) := b1.cell 0
  have c2 : w3.cell? ⟨w.heap.size + 1 + 1, 0, none⟩ = some (.int .i64 0) := b2.cell 0
  have f1 := b1.frozen 0
  have f2 := b2.frozen 0
  go_wp2_with fail
  have d1 := ((b1.set_ 0 (.bool false)).far (p := ⟨w.heap.size + 1 + 1, 0, none⟩) (by simp) (.int .i64 k)).cell 0
  have d2 := ((b2.far (p := ⟨w.heap.size + 1, 0, none⟩) (by simp) (.bool false)).set_ 0 (.int .i64 k)).cell 0
  simp only [List.setIfInBounds_toArray, List.set_cons_zero, List.getElem?_toArray, List.getElem?_cons_zero] at d1 d2
  refine bodyPost_ret (v := .tuple #[.bool false, .int .i64 k]) (by simp [results, Try.results13, go_sem, d1, d2]) rfl ?_
  exact ⟨[], fun h => absurd h HN.out, fun _ => rfl, by rw [HK.out]; rfl, (hBa.setCell (by simp) _).setCell (by simp; omega) _⟩

theorem blk_own {β : Type} (B : Nat) (t : TypeId) (f : β → Array Value) : Own (fun s W => Blk W B t (f s)) := fun s X Y row hs hg hrow =>
  hs.grown hg (fun e' => by obtain ⟨o, ho, hc⟩ := hrow B e'.symm; rw [show X.heap[B]? = _ from hs] at ho; cases ho; cases hc)
theorem keepsFrom_below {B : Nat} {W W' : World} (h : Below W.heap.size W W') : KeepsFrom B W W' :=
  ⟨h.size, fun k _ _ hk _ => (h.block k (Array.getElem?_eq_some_iff.1 hk).1).trans hk⟩

theorem ownFrom_size {β : Type} (B n : Nat) : OwnFrom B (fun (_ : β) W => n ≤ W.heap.size) := fun _ _ _ _ hs hg _ => Nat.le_trans hs hg.size

theorem Blk.putObj {W : World} {g D : Nat} {t : TypeId} {cs : Array Value} (h : Blk W g t cs) {ds : Option (List Deferred)} (hK : W.heap[D]? = some (.deferred ds)) (o : Obj) : Blk (W.putObj D o) g t cs :=
  h.grown (grownBy_putObj' W D o) (fun e => by cases e; rw [show W.heap[g]? = _ from h] at hK; cases hK)
theorem below_putObj {w W : World} {D : Nat} {o : Obj} (h : Below w.heap.size w W) (hD : w.heap.size ≤ D) (_ : W.heap[D]? = some o) (o' : Obj) : Below w.heap.size w (W.putObj D o') :=
  h.grown (grownBy_putObj' W D o') h.size (fun k e => by cases e; exact hD)
theorem heap_setCell_ne {W : World} {D : Nat} {o : Obj} (h : W.heap[D]? = some o) {p : Addr} (hp : D ≠ p.block) (u : Value) : (W.setCell p u).heap[D]? = some o := (Below.heap_setCell W p u D hp).trans h

/-- The row that a union iterator reads lies beyond the caller's boxes. -/
theorem row_beyond {w : World} {base b Bs : Nat} {v : Value} {l : List (Int × Int)} {xs : List Value} (hrow : w.ownsRow base 23 2 v l.length xs) (h1 : ∀ a n c, v = .slice (some a) n c → 0 < l.length → b = a.block) (h2 : l.length = 0 → b = Bs) (hBs : base ≤ Bs) : base ≤ b := by
  by_cases h0 : 0 < l.length
  · rcases hrow.2 with ⟨_, h⟩ | ⟨g, cap, cur, rfl, hb, _⟩
    · omega
    · rw [h1 _ _ _ rfl h0]; exact hb
  · rw [h2 (by omega)]; exact hBs

set_option maxRecDepth 100000 in
set_option maxHeartbeats 4000000 in
theorem Inside_yes (i : Int × Int) (v : Value) (l : List (Int × Int)) (w : World) (h : SlIv w v l) (hlen : l.length ≤ 1000000) (hk : bothE i l = 0) :
    Calls Try.prog 13 #[ivV i, v] w (RetInside w i l) := by
  have H := Lib.hid h
  clear h
  have HK := Lib.hid hk
  obtain ⟨hk1, hk2⟩ := bothE_zero hk
  have HK1 := Lib.hid hk1
  have HK2 := Lib.hid hk2
  clear hk hk1 hk2
  refine (callsIn_wide (n := 6)).1 ?_
  refine callsIn_of_wp_marks Try.func13 rfl trivial ?_ rfl
  simp only [Try.ntmps13, List.size_toArray, List.length_cons, List.length_nil, Nat.reduceAdd, Nat.reduceSub, Array.replicate_succ, Array.replicate_zero, List.push_toArray, List.append_toArray, List.nil_append, List.cons_append]
  gi_wp2_with fail
  refine ⟨trivial, callsIn_wide.2 ?_⟩
  refine (check_any i _).mono ?_
  rintro e w1 ⟨rfl, hB1⟩
  have hBa := bAfter (bAl (bAl (bAl (Below.refl _ w) _) _) _) hB1
  have b0 : Blk w1 w.heap.size 23 #[.int .i64 i.1, .int .i64 i.2] := bk hB1 (((Blk.new _ _ _).alloc _).alloc _)
  have b1 : Blk w1 (w.heap.size + 1) 4 #[.bool false] := bk hB1 ((Blk.newAt _ _ _ (by simp)).alloc _)
  have b2 : Blk w1 (w.heap.size + 1 + 1) 26 #[.int .i64 0] := bk hB1 (Blk.newAt _ _ _ (by simp))
  clear hB1
  gi_wp2_with fail
  refine ⟨trivial, callsIn_wide.2 ?_⟩
  refine (checkAll_any _ l _ ((H.out.below hBa).more hBa.size)).mono ?_
  rintro e w2 ⟨rfl, hB2⟩
  replace b0 := bk hB2 b0
  replace b1 := bk hB2 b1
  replace b2 := bk hB2 b2
  replace hBa := bAfter hBa hB2
  clear hB2
  gi_wp2_with fail
  refine ⟨trivial, callsIn_wide.2 ?_⟩
  refine (or_any _ (chk i) (chkAll l) _ ((Blk.new _ _ _).cell 0) ((Blk.new _ _ _).cell 1)).mono ?_
  rintro e w3 ⟨rfl, hB3⟩
  replace b0 := bk hB3 (b0.alloc _)
  replace b1 := bk hB3 (b1.alloc _)
  replace b2 := bk hB3 (b2.alloc _)
  replace hBa := bAfter (bAl hBa _) hB3
  clear hB3
  rw [show orE (chk i) (chkAll l) = 0 from HK.out]
  gi_wp2_with fail
  refine ⟨trivial, callsIn_wide.2 ?_⟩
  refine (union_any _ l _ ((H.out.below hBa).more hBa.size) hlen).mono ?_
  rintro e w4 ⟨rfl, v2, l', hp, hs, hbox, hrow, hB4⟩
  have HS := Lib.hid hs
  obtain ⟨b, hb, hb1, hb2, hseq⟩ := union2_seq _ v2 l' (fun x hx => ok_of_chkAll HK2.out x (hp.subset hx)) w4 hbox.cell hbox.lt (own_sl hrow (Nat.le_refl _))
  have hbb := row_beyond hrow hb1 hb2 (Nat.le_refl _)
  have HSQ := Lib.hid (hseq 5 (by omega))
  have hb2' := b2.lt
  replace b0 := bk hB4 b0
  replace b1 := bk hB4 b1
  replace b2 := bk hB4 b2
  replace hBa := bAfter hBa hB4
  have hsz : w.heap.size + 1 + 1 < w4.heap.size := b2.lt
  clear hs hrow hbox hseq hB4 hb1 hb2
  gi_wp2_with fail
  refine wpIn_rangeFunc_ownH rfl (by omega) (gf := 47) (lb := #[.pointer (some ⟨w3.heap.size, 0, none⟩)]) rfl trivial eg47 HSQ.out (fun h k => Keep1.trans h k) (keep1_b hb) (Below.refl _ _) (fun _ => rfl)
    (fun pre W => (Blk W w.heap.size 23 #[.int .i64 i.1, .int .i64 i.2] ∧ Blk W (w.heap.size + 1) 4 #[.bool false] ∧ Blk W (w.heap.size + 1 + 1) 26 #[.int .i64 0]) ∧ Below w.heap.size w W ∧ w4.heap.size ≤ W.heap.size ∧ (pre.map (·.1)).any (withinB i) = false)
    (fun c pre W => (Blk W (w.heap.size + 1) 4 #[.bool true] ∧ Blk W (w.heap.size + 1 + 1) 26 #[.int .i64 0]) ∧ Below w.heap.size w W ∧ (pre.map (·.1)).any (withinB i) = true ∧ c = .ret)
    ((Own.from (fun s A B row hs hg hr => ⟨blk_own _ _ (fun _ => _) s A B row hs.1 hg hr, blk_own _ _ (fun _ => _) s A B row hs.2.1 hg hr, blk_own _ _ (fun _ => _) s A B row hs.2.2 hg hr⟩) _).and ((ownFrom_below (Nat.le_refl _) (by omega)).and ((ownFrom_size _ _).and (ownFrom_pure _ _))))
    (fun c => (Own.from (fun s A B row hs hg hr => ⟨blk_own _ _ (fun _ => _) s A B row hs.1 hg hr, blk_own _ _ (fun _ => _) s A B row hs.2 hg hr⟩) _).and ((ownFrom_below (Nat.le_refl _) (by omega)).and (ownFrom_pure _ _)))
    ⟨⟨b0, b1, b2⟩, hBa, Nat.le_refl _, rfl⟩
    (fun x a' W => ∃ Bx, w4.heap.size ≤ Bx ∧ Blk W Bx 23 #[.int .i64 x.1.1, .int .i64 x.1.2] ∧ a' = { tmps := #[ivV i, v, .pointer (some ⟨w.heap.size, 0, none⟩), undef, .pointer (some ⟨w.heap.size + 1, 0, none⟩), .pointer (some ⟨w.heap.size + 1 + 1, 0, none⟩), .int .i64 0, .pointer (some ⟨Bx, 0, none⟩), ivV i, .int .i64 (chk i), v, .int .i64 (chkAll l), .slice (some ⟨w2.heap.size, 0, none⟩) 2 2, .int .i64 0, .int .i64 0, .bool false, undef, v, .func (.func 47) #[] #[.pointer (some ⟨w3.heap.size, 0, none⟩)], ivV x.1, undef, undef, undef], defers := [] })
    ?hAx ?assign ?body ?done ?stop
  case hAx =>
    rintro x a' _ W W' row ⟨Bx, hBx, hb, he⟩ hg hr
    refine ⟨Bx, hBx, hb.grown hg ?_, he⟩
    intro e
    obtain ⟨_, o, ho, hc⟩ := hr Bx e.symm
    rw [show W.heap[Bx]? = _ from hb] at ho; cases ho; cases hc
  case assign =>
    rintro lp pre x W K ⟨⟨h0, h1, h2⟩, hB, hsW, hany⟩ hK
    gi_wp2
    exact hK _ _ ((KeepsOthers.alloc _ _).from _) (keep1_alloc (Nat.lt_of_lt_of_le hb hsW) _) ⟨⟨h0.alloc _, h1.alloc _, h2.alloc _⟩, hB.alloc hB.size _, by simp; omega, hany⟩ ⟨W.heap.size, hsW, Blk.new _ _ _, rfl⟩
  case body =>
    rintro lp pre x a' W hl hr ⟨⟨h0, h1, h2⟩, hB, hsW, hany⟩ ⟨Bx, hBx, hX, rfl⟩ hlt
    have c0 : W.cell? ⟨w.heap.size, 0, none⟩ = some (.int .i64 i.1) := h0.cell 0
    have c1 : W.cell? ⟨w.heap.size, 1, none⟩ = some (.int .i64 i.2) := h0.cell 1
    have x0 : W.cell? ⟨Bx, 0, none⟩ = some (.int .i64 x.1.1) := hX.cell 0
    have x1 : W.cell? ⟨Bx, 1, none⟩ = some (.int .i64 x.1.2) := hX.cell 1
    have HANY := Lib.hid hany
    clear hany
    gi_wp2_with fail
    refine ⟨trivial, CallsIn.inRound lp (callsIn_wide.2 ?_)⟩
    refine (within_any i x.1 _).mono ?_
    rintro e W1 ⟨rfl, hB1⟩
    cases hwi : withinB i x.1 with
    | false =>
      have HWI := Lib.hid hwi
      clear hwi
      gi_wp2_with fail
      exact ⟨keepsFrom_below hB1, Keep1.of_below hB1 (by omega), ⟨bk hB1 h0, bk hB1 h1, bk hB1 h2⟩, bAfter hB hB1, Nat.le_trans hsW hB1.size, by rw [List.map_append, List.any_append, HANY.out]; simp [HWI.out]⟩
    | true =>
      have HWI := Lib.hid hwi
      clear hwi
      replace h1 := bk hB1 h1
      replace h2 := bk hB1 h2
      have d1 : W1.cell? ⟨w.heap.size + 1, 0, none⟩ = some (.bool false) := h1.cell 0
      have d2 : W1.cell? ⟨w.heap.size + 1 + 1, 0, none⟩ = some (.int .i64 0) := h2.cell 0
      have f1 := h1.frozen 0
      have f2 := h2.frozen 0
      gi_wp2_with fail
      exact ⟨((keepsFrom_below hB1).trans ((KeepsOthers.setCell _ _ _).from _)).trans ((KeepsOthers.setCell _ _ _).from _), ⟨(h1.set_ 0 _).far (by simp) _, (h2.far (by simp) _).set_ 0 _⟩, ((bAfter hB hB1).setCell (by simp) _).setCell (by simp; omega) _, by simp [HWI.out], rfl⟩
  case done =>
    rintro D ys W hD hS ⟨⟨h0, h1, h2⟩, hB, hsW, hany⟩ hK
    have d1 : W.cell? ⟨w.heap.size + 1, 0, none⟩ = some (.bool false) := h1.cell 0
    have d2 : W.cell? ⟨w.heap.size + 1 + 1, 0, none⟩ = some (.int .i64 0) := h2.cell 0
    have f1 := h1.frozen 0
    have f2 := h2.frozen 0
    have HSS := Lib.hid hS
    have HANY := Lib.hid hany
    clear hS hany
    gi_wp2_with fail
    have hK2 := heap_setCell_ne (heap_setCell_ne hK (p := ⟨w.heap.size + 1, 0, none⟩) (by simp; omega) (.bool false)) (p := ⟨w.heap.size + 1 + 1, 0, none⟩) (by simp; omega) (.int .i64 0)
    refine ⟨by simp, .inl ⟨_, _, rfl, run_takeDeferred hK2, ?_⟩⟩
    have e1 := (((h1.set_ 0 (.bool false)).far (p := ⟨w.heap.size + 1 + 1, 0, none⟩) (by simp) (.int .i64 0)).putObj hK2 (.deferred none)).cell 0
    have e2 := (((h2.far (p := ⟨w.heap.size + 1, 0, none⟩) (by simp) (.bool false)).set_ 0 (.int .i64 0)).putObj hK2 (.deferred none)).cell 0
    have hB2 := below_putObj ((hB.setCell (p := ⟨w.heap.size + 1, 0, none⟩) (by simp) (.bool false)).setCell (p := ⟨w.heap.size + 1 + 1, 0, none⟩) (by simp; omega) (.int .i64 0)) (by omega) hK2 (.deferred none)
    simp only [List.setIfInBounds_toArray, List.set_cons_zero, List.getElem?_toArray, List.getElem?_cons_zero] at e1 e2
    refine ⟨.tuple #[.bool false, .int .i64 0], by simp [results, Try.results13, go_sem, e1, e2], l', fun _ => ⟨hp, HS.out⟩, fun h => absurd HK.out h, ?_, hB2⟩
    rw [HK.out, ← HSS.out, HANY.out]
  case stop =>
    rintro D c pre W hD hSp ⟨⟨h1, h2⟩, hB, hany, rfl⟩ hK
    have HSS := Lib.hid hSp
    have HANY := Lib.hid hany
    clear hSp hany
    gi_wp2_with fail
    refine ⟨by simp, .inl ⟨_, _, rfl, run_takeDeferred hK, ?_⟩⟩
    have e1 := (h1.putObj hK (.deferred none)).cell 0
    have e2 := (h2.putObj hK (.deferred none)).cell 0
    have hB2 := below_putObj hB (by omega) hK (.deferred none)
    simp only [List.getElem?_toArray, List.getElem?_cons_zero] at e1 e2
    refine ⟨.tuple #[.bool true, .int .i64 0], by simp [results, Try.results13, go_sem, e1, e2], l', fun _ => ⟨hp, HS.out⟩, fun h => absurd HK.out h, ?_, hB2⟩
    obtain ⟨t, ht⟩ := HSS.out
    rw [HK.out, ← ht, List.any_append, HANY.out, Bool.true_or]

theorem Inside_any (i : Int × Int) (v : Value) (l : List (Int × Int)) (w : World) (h : SlIv w v l) (hlen : l.length ≤ 1000000) :
    Calls Try.prog 13 #[ivV i, v] w (RetInside w i l) := by
  by_cases hk : bothE i l = 0
  · exact Inside_yes i v l w h hlen hk
  · exact Inside_no i v l w h hk
end Go.Proofs.Ytidaklcinddghaa
