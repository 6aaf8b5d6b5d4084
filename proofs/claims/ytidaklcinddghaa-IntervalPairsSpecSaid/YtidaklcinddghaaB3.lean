import Derived.Test.YtidaklcinddghaaB2
import Derived.Test.YtidaklcinddghaaC0
namespace Go.Proofs.Ytidaklcinddghaa
open Go.RowKit Go.Shelf

theorem cells2' {w : World} {g : Nat} {t : TypeId} {x y : Value} (h : Blk w g t #[x, y]) : (w.cell? ⟨g, 0, none⟩ = some x ∧ w.cell? ⟨g, 1, none⟩ = some y) ∧ w.frozen? ⟨g, 0, none⟩ = false ∧ w.frozen? ⟨g, 1, none⟩ = false :=
  ⟨cells2 h, h.frozen 0, h.frozen 1⟩

set_option maxHeartbeats 1000000 in
theorem rWithin_any (x y : Int × Int) (w : World) :
    Calls Try.prog 29 #[ivV x, ivV y] w fun r w' => r = .returned (.bool (withinB x y)) ∧ Below w.heap.size w w' := by
  obtain ⟨a, b⟩ := x
  obtain ⟨c, d⟩ := y
  by_cases h1 : chk (a, b) = 0
  · have H1 := Lib.hid h1
    by_cases h2 : chk (c, d) = 0
    · have H2 := Lib.hid h2
      have HW : Hid (withinB (a, b) (c, d) = decide (c ≤ a ∧ b ≤ d)) := Lib.hid (withinB_ok (ok_of_chk h1) (ok_of_chk h2))
      clear h1 h2
      generalize withinB (a, b) (c, d) = z at *
      go_enter Try.func29, Try.ntmps29
      go_wp2_with fail
      refine (rCheck_eq (a, b) _ H1.out).mono ?_
      rintro e w1 ⟨rfl, hB1⟩
      have b0 : Blk w1 w.heap.size 23 #[.int .i64 a, .int .i64 b] := bk hB1 ((Blk.new _ _ _).alloc _)
      have b1 : Blk w1 (w.heap.size + 1) 23 #[.int .i64 c, .int .i64 d] := bk hB1 (Blk.newAt _ _ _ (by simp))
      have hBa := bAfter (bAl (bAl (Below.refl _ w) _) _) hB1
      obtain ⟨a0, a1⟩ := cells2 b0
      obtain ⟨a2, a3⟩ := cells2 b1
      clear hB1
      go_wp2_with fail
      refine (rCheck_eq (c, d) _ H2.out).mono ?_
      rintro e w2 ⟨rfl, hB2⟩
      replace b0 := bk hB2 b0
      replace b1 := bk hB2 b1
      replace hBa := bAfter hBa hB2
      clear hB2 a0 a1 a2 a3
      obtain ⟨a0, a1⟩ := cells2 b0
      obtain ⟨a2, a3⟩ := cells2 b1
      go_wp2_with fail
      all_goals
        go_ret
        exact ⟨ret_bool (by rw [HW.out]; simp; omega), hBa⟩
    · have HW := Lib.hid (withinB_no (x := (a, b)) (y := (c, d)) (.inr h2))
      obtain ⟨q, hq⟩ : ∃ q, chk (c, d) = q := ⟨_, rfl⟩
      have nq : (q == 0) = false := by rw [← hq]; simp [h2]
      have HQ := Lib.hid hq
      clear h1 h2 hq
      generalize withinB (a, b) (c, d) = z at *
      go_enter Try.func29, Try.ntmps29
      go_wp2_with fail
      refine (rCheck_eq (a, b) _ H1.out).mono ?_
      rintro e w1 ⟨rfl, hB1⟩
      have b1 : Blk w1 (w.heap.size + 1) 23 #[.int .i64 c, .int .i64 d] := bk hB1 (Blk.newAt _ _ _ (by simp))
      have hBa := bAfter (bAl (bAl (Below.refl _ w) _) _) hB1
      obtain ⟨a2, a3⟩ := cells2 b1
      clear hB1
      go_wp2_with fail
      refine (rCheck_eq (c, d) _ HQ.out).mono ?_
      rintro e w2 ⟨rfl, hB2⟩
      replace hBa := bAfter hBa hB2
      clear hB2 a2 a3
      go_wp2_with fail
      go_ret
      exact ⟨ret_bool HW.out.symm, hBa⟩
  · have HW := Lib.hid (withinB_no (x := (a, b)) (y := (c, d)) (.inl h1))
    obtain ⟨q, hq⟩ : ∃ q, chk (a, b) = q := ⟨_, rfl⟩
    have nq : (q == 0) = false := by rw [← hq]; simp [h1]
    have HQ := Lib.hid hq
    clear h1 hq
    generalize withinB (a, b) (c, d) = z at *
    go_enter Try.func29, Try.ntmps29
    go_wp2_with fail
    refine (rCheck_eq (a, b) _ HQ.out).mono ?_
    rintro e w1 ⟨rfl, hB1⟩
    have hBa := bAfter (bAl (bAl (Below.refl _ w) _) _) hB1
    clear hB1
    go_wp2_with fail
    go_ret
    exact ⟨ret_bool HW.out.symm, hBa⟩

set_option maxHeartbeats 2000000 in
theorem rHull_any (x y : Int × Int) (w : World) :
    Calls Try.prog 27 #[ivV x, ivV y] w fun r w' => r = .returned (errV (hullV x y).1 (hullV x y).2) ∧ Below w.heap.size w w' := by
  obtain ⟨a, b⟩ := x
  obtain ⟨c, d⟩ := y
  have HW : Hid (hullV (a, b) (c, d) = if chkAll [(a, b), (c, d)] = 0 then ((min a c, max b d), 0) else ((0, 0), chkAll [(a, b), (c, d)])) := Lib.hid rfl
  generalize hullV (a, b) (c, d) = z at *
  generalize hk : chkAll [(a, b), (c, d)] = k at *
  have HK := Lib.hid hk
  clear hk
  by_cases hk0 : k = 0
  · have hk1 : (k != 0) = false := by simp [hk0]
    have hz : z = ((min a c, max b d), 0) := by rw [HW.out, if_pos hk0]
    subst hz
    go_enter Try.func27, Try.ntmps27
    go_wp2_with fail
    refine (rAll_any _ [(a, b), (c, d)] _ (by exact slTwo _ _ (by simp) _ _ _ _ _ _ _ _ rfl rfl)).mono ?_
    rintro e w1 ⟨rfl, hB1⟩
    rw [HK.out]
    have b0 : Blk w1 w.heap.size 23 #[.int .i64 a, .int .i64 b] := bk hB1 ((((Blk.new _ _ _).alloc _).alloc _).alloc _)
    have b1 : Blk w1 (w.heap.size + 1) 23 #[.int .i64 c, .int .i64 d] := bk hB1 (((Blk.newAt _ _ _ (by simp)).alloc _).alloc _)
    have b2 : Blk w1 (w.heap.size + 1 + 1) 23 #[.int .i64 0, .int .i64 0] := bk hB1 ((Blk.newAt _ _ _ (by simp)).alloc _)
    have hBa := bAfter (bAl (bAl (bAl (bAl (Below.refl _ w) _) _) _) _) hB1
    obtain ⟨a0, a1⟩ := cells2 b0
    obtain ⟨a2, a3⟩ := cells2 b1
    obtain ⟨⟨a4, a5⟩, f4, f5⟩ := cells2' b2
    have l2 := b2.lt
    clear hB1
    go_wp2
    have B3 := (b2.set_ 0 (.int .i64 (min a c))).set_ 1 (.int .i64 (max b d))
    have d0 := B3.cell 0
    have d1 := B3.cell 1
    simp only [List.setIfInBounds_toArray, List.set_cons_zero, List.set_cons_succ, List.getElem?_toArray, List.getElem?_cons_zero, List.getElem?_cons_succ] at d0 d1
    exact bodyPost_ret (v := errV (min a c, max b d) 0) (by simp [results, Try.results27, go_sem, d0, d1]) rfl ⟨rfl, (hBa.setCell (by simp; omega) _).setCell (by simp; omega) _⟩
  · have hk1 : (k != 0) = true := by simp [hk0]
    have hz : z = ((0, 0), k) := by rw [HW.out, if_neg hk0]
    subst hz
    go_enter Try.func27, Try.ntmps27
    go_wp2_with fail
    refine (rAll_any _ [(a, b), (c, d)] _ (by exact slTwo _ _ (by simp) _ _ _ _ _ _ _ _ rfl rfl)).mono ?_
    rintro e w1 ⟨rfl, hB1⟩
    rw [HK.out]
    have b2 : Blk w1 (w.heap.size + 1 + 1) 23 #[.int .i64 0, .int .i64 0] := bk hB1 ((Blk.newAt _ _ _ (by simp)).alloc _)
    have hBa := bAfter (bAl (bAl (bAl (bAl (Below.refl _ w) _) _) _) _) hB1
    obtain ⟨⟨a4, a5⟩, f4, f5⟩ := cells2' b2
    clear hB1
    go_wp2_with fail
    have B3 := (b2.set_ 0 (.int .i64 0)).set_ 1 (.int .i64 0)
    have d0 := B3.cell 0
    have d1 := B3.cell 1
    simp only [List.setIfInBounds_toArray, List.set_cons_zero, List.set_cons_succ, List.getElem?_toArray, List.getElem?_cons_zero, List.getElem?_cons_succ] at d0 d1
    exact bodyPost_ret (v := errV (0, 0) k) (by simp [results, Try.results27, go_sem, d0, d1]) rfl ⟨rfl, (hBa.setCell (by simp; omega) _).setCell (by simp; omega) _⟩

set_option maxHeartbeats 2000000 in
theorem rMeet_any (x y : Int × Int) (w : World) :
    Calls Try.prog 25 #[ivV x, ivV y] w fun r w' => r = .returned (errV (meetV x y).1 (meetV x y).2) ∧ Below w.heap.size w w' := by
  obtain ⟨a, b⟩ := x
  obtain ⟨c, d⟩ := y
  have HW : Hid (meetV (a, b) (c, d) = if chkAll [(a, b), (c, d)] = 0 then (if min b d < max a c then ((0, 0), 80) else ((max a c, min b d), 0)) else ((0, 0), chkAll [(a, b), (c, d)])) := Lib.hid rfl
  generalize meetV (a, b) (c, d) = z at *
  generalize hk : chkAll [(a, b), (c, d)] = k at *
  have HK := Lib.hid hk
  clear hk
  by_cases hk0 : k = 0
  · have hk1 : (k != 0) = false := by simp [hk0]
    by_cases hlt : min b d < max a c
    · have hz : z = ((0, 0), 80) := by rw [HW.out, if_pos hk0, if_pos hlt]
      subst hz
      go_enter Try.func25, Try.ntmps25
      go_wp2_with fail
      refine (rAll_any _ [(a, b), (c, d)] _ (by exact slTwo _ _ (by simp) _ _ _ _ _ _ _ _ rfl rfl)).mono ?_
      rintro e w1 ⟨rfl, hB1⟩
      rw [HK.out]
      have b0 : Blk w1 w.heap.size 23 #[.int .i64 a, .int .i64 b] := bk hB1 ((((Blk.new _ _ _).alloc _).alloc _).alloc _)
      have b1 : Blk w1 (w.heap.size + 1) 23 #[.int .i64 c, .int .i64 d] := bk hB1 (((Blk.newAt _ _ _ (by simp)).alloc _).alloc _)
      have b2 : Blk w1 (w.heap.size + 1 + 1) 23 #[.int .i64 0, .int .i64 0] := bk hB1 ((Blk.newAt _ _ _ (by simp)).alloc _)
      have hBa := bAfter (bAl (bAl (bAl (bAl (Below.refl _ w) _) _) _) _) hB1
      obtain ⟨a0, a1⟩ := cells2 b0
      obtain ⟨a2, a3⟩ := cells2 b1
      obtain ⟨⟨a4, a5⟩, f4, f5⟩ := cells2' b2
      have l2 := b2.lt
      clear hB1
      go_wp2
      have B3 := (b2.set_ 0 (.int .i64 0)).set_ 1 (.int .i64 0) |>.alloc (.cells #[.int .i64 (max a c), .int .i64 (min b d)] 23)
      have d0 := B3.cell 0
      have d1 := B3.cell 1
      simp only [List.setIfInBounds_toArray, List.set_cons_zero, List.set_cons_succ, List.getElem?_toArray, List.getElem?_cons_zero, List.getElem?_cons_succ] at d0 d1
      exact bodyPost_ret (v := errV (0, 0) 80) (by simp [results, Try.results25, go_sem, d0, d1]) rfl ⟨rfl, bAl ((hBa.setCell (by simp; omega) _).setCell (by simp; omega) _) _⟩
    · have hz : z = ((max a c, min b d), 0) := by rw [HW.out, if_pos hk0, if_neg hlt]
      subst hz
      go_enter Try.func25, Try.ntmps25
      go_wp2_with fail
      refine (rAll_any _ [(a, b), (c, d)] _ (by exact slTwo _ _ (by simp) _ _ _ _ _ _ _ _ rfl rfl)).mono ?_
      rintro e w1 ⟨rfl, hB1⟩
      rw [HK.out]
      have b0 : Blk w1 w.heap.size 23 #[.int .i64 a, .int .i64 b] := bk hB1 ((((Blk.new _ _ _).alloc _).alloc _).alloc _)
      have b1 : Blk w1 (w.heap.size + 1) 23 #[.int .i64 c, .int .i64 d] := bk hB1 (((Blk.newAt _ _ _ (by simp)).alloc _).alloc _)
      have b2 : Blk w1 (w.heap.size + 1 + 1) 23 #[.int .i64 0, .int .i64 0] := bk hB1 ((Blk.newAt _ _ _ (by simp)).alloc _)
      have hBa := bAfter (bAl (bAl (bAl (bAl (Below.refl _ w) _) _) _) _) hB1
      obtain ⟨a0, a1⟩ := cells2 b0
      obtain ⟨a2, a3⟩ := cells2 b1
      obtain ⟨⟨a4, a5⟩, f4, f5⟩ := cells2' b2
      have l2 := b2.lt
      clear hB1
      go_wp2
      have B3 := (b2.set_ 0 (.int .i64 (max a c))).set_ 1 (.int .i64 (min b d)) |>.alloc (.cells #[.int .i64 (max a c), .int .i64 (min b d)] 23)
      have d0 := B3.cell 0
      have d1 := B3.cell 1
      simp only [List.setIfInBounds_toArray, List.set_cons_zero, List.set_cons_succ, List.getElem?_toArray, List.getElem?_cons_zero, List.getElem?_cons_succ] at d0 d1
      exact bodyPost_ret (v := errV (max a c, min b d) 0) (by simp [results, Try.results25, go_sem, d0, d1]) rfl ⟨rfl, bAl ((hBa.setCell (by simp; omega) _).setCell (by simp; omega) _) _⟩
  · have hk1 : (k != 0) = true := by simp [hk0]
    have hz : z = ((0, 0), k) := by rw [HW.out, if_neg hk0]
    subst hz
    go_enter Try.func25, Try.ntmps25
    go_wp2_with fail
    refine (rAll_any _ [(a, b), (c, d)] _ (by exact slTwo _ _ (by simp) _ _ _ _ _ _ _ _ rfl rfl)).mono ?_
    rintro e w1 ⟨rfl, hB1⟩
    rw [HK.out]
    have b2 : Blk w1 (w.heap.size + 1 + 1) 23 #[.int .i64 0, .int .i64 0] := bk hB1 ((Blk.newAt _ _ _ (by simp)).alloc _)
    have hBa := bAfter (bAl (bAl (bAl (bAl (Below.refl _ w) _) _) _) _) hB1
    obtain ⟨⟨a4, a5⟩, f4, f5⟩ := cells2' b2
    clear hB1
    go_wp2_with fail
    have B3 := (b2.set_ 0 (.int .i64 0)).set_ 1 (.int .i64 0)
    have d0 := B3.cell 0
    have d1 := B3.cell 1
    simp only [List.setIfInBounds_toArray, List.set_cons_zero, List.set_cons_succ, List.getElem?_toArray, List.getElem?_cons_zero, List.getElem?_cons_succ] at d0 d1
    exact bodyPost_ret (v := errV (0, 0) k) (by simp [results, Try.results25, go_sem, d0, d1]) rfl ⟨rfl, (hBa.setCell (by simp; omega) _).setCell (by simp; omega) _⟩

end Go.Proofs.Ytidaklcinddghaa
