import Derived.Test.YtidaklcinddghaaB1
import Derived.Test.YtidaklcinddghaaLt
namespace Go.Proofs.Ytidaklcinddghaa
open Go.RowKit Go.Shelf

theorem within_eq (x y : Int × Int) (w : World) {b : Bool} (h : withinB x y = b) : Calls Try.prog 23 #[ivV x, ivV y] w fun r w' => r = .returned (.bool b) ∧ Below w.heap.size w w' := by
  rw [← h]; exact within_any x y w
theorem check_eq (x : Int × Int) (w : World) {k : Int} (h : chk x = k) : Calls Try.prog 18 #[ivV x] w fun r w' => r = .returned (.int .i64 k) ∧ Below w.heap.size w w' := by
  rw [← h]; exact check_any x w

theorem withinB_ok {x y : Int × Int} (hx : Ok x) (hy : Ok y) : withinB x y = decide (y.1 ≤ x.1 ∧ x.2 ≤ y.2) := by
  unfold withinB
  rw [chkAll_of_ok (l := [x, y]) (by simp [hx, hy])]
  simp
theorem withinB_no {x y : Int × Int} (h : chk x ≠ 0 ∨ chk y ≠ 0) : withinB x y = false := by
  unfold withinB
  rw [decide_eq_false_iff_not]
  rintro ⟨h1, _⟩
  have := ok_of_chkAll h1
  rcases h with h | h
  · exact h (chk_of_ok (this x (by simp)))
  · exact h (chk_of_ok (this y (by simp)))

theorem cells2 {w : World} {g : Nat} {t : TypeId} {x y : Value} (h : Blk w g t #[x, y]) : w.cell? ⟨g, 0, none⟩ = some x ∧ w.cell? ⟨g, 1, none⟩ = some y := ⟨h.cell 0, h.cell 1⟩

set_option maxRecDepth 100000 in
set_option maxHeartbeats 4000000 in
theorem lattice_ok (a b c : Int × Int) (w : World) (ha : chk a = 0) (hb : chk b = 0) (hc : chk c = 0) :
    Calls Try.prog 9 #[ivV a, ivV b, ivV c] w fun e w' => e = .returned (.bool true) ∧ Below w.heap.size w w' := by
  have oa := ok_of_chk ha
  have ob := ok_of_chk hb
  have oc := ok_of_chk hc
  have HA := Lib.hid ha
  have HB := Lib.hid hb
  have HC := Lib.hid hc
  have hk2 : chkAll [a, b] = 0 := chkAll_of_ok (by simp [oa, ob])
  have HH := Lib.hid (show hullV a b = ((min a.1 b.1, max a.2 b.2), 0) from if_pos hk2)
  have HM := Lib.hid (show meetV a b = (if min a.2 b.2 < max a.1 b.1 then ((0, 0), 80) else ((max a.1 b.1, min a.2 b.2), 0)) from if_pos hk2)
  have oh : Ok (min a.1 b.1, max a.2 b.2) := by unfold Ok at *; dsimp only; omega
  clear ha hb hc hk2
  go_enter Try.func9, Try.ntmps9
  go_wp2_with fail
  refine (sane_any _).mono ?_
  rintro e w1 ⟨rfl, hB1⟩
  have hBa := bAfter (bAl (bAl (bAl (Below.refl _ w) _) _) _) hB1
  have b0 : Blk w1 w.heap.size 23 #[.int .i64 a.1, .int .i64 a.2] := bk hB1 (((Blk.new _ _ _).alloc _).alloc _)
  have b1 : Blk w1 (w.heap.size + 1) 23 #[.int .i64 b.1, .int .i64 b.2] := bk hB1 ((Blk.newAt _ _ _ (by simp)).alloc _)
  have b2 : Blk w1 (w.heap.size + 1 + 1) 23 #[.int .i64 c.1, .int .i64 c.2] := bk hB1 (Blk.newAt _ _ _ (by simp))
  clear hB1
  generalize hN : w.heap.size = N at *
  have HN := Lib.hid hN
  clear hN
  obtain ⟨a0, a1⟩ := cells2 b0
  obtain ⟨a2, a3⟩ := cells2 b1
  obtain ⟨a4, a5⟩ := cells2 b2
  go_wp2_with fail
  refine (check_eq a _ HA.out).mono ?_
  rintro e w2 ⟨rfl, hB2⟩
  replace b0 := bk hB2 b0
  replace b1 := bk hB2 b1
  replace b2 := bk hB2 b2
  replace hBa := bAft hB2 hBa (Nat.le_of_eq HN.out.symm)
  clear hB2 a0 a1 a2 a3 a4 a5
  obtain ⟨a0, a1⟩ := cells2 b0
  obtain ⟨a2, a3⟩ := cells2 b1
  obtain ⟨a4, a5⟩ := cells2 b2
  go_wp2_with fail
  refine (check_eq b _ HB.out).mono ?_
  rintro e w3 ⟨rfl, hB3⟩
  replace b0 := bk hB3 b0
  replace b1 := bk hB3 b1
  replace b2 := bk hB3 b2
  replace hBa := bAft hB3 hBa (Nat.le_of_eq HN.out.symm)
  clear hB3 a0 a1 a2 a3 a4 a5
  obtain ⟨a0, a1⟩ := cells2 b0
  obtain ⟨a2, a3⟩ := cells2 b1
  obtain ⟨a4, a5⟩ := cells2 b2
  go_wp2_with fail
  refine (check_eq c _ HC.out).mono ?_
  rintro e w4 ⟨rfl, hB4⟩
  replace b0 := bk hB4 b0
  replace b1 := bk hB4 b1
  replace b2 := bk hB4 b2
  replace hBa := bAft hB4 hBa (Nat.le_of_eq HN.out.symm)
  clear hB4 a0 a1 a2 a3 a4 a5
  obtain ⟨a0, a1⟩ := cells2 b0
  obtain ⟨a2, a3⟩ := cells2 b1
  obtain ⟨a4, a5⟩ := cells2 b2
  go_wp2_with fail
  refine (meet_any a b _).mono ?_
  rintro e w5 ⟨rfl, hB5⟩
  replace b0 := bk hB5 b0
  replace b1 := bk hB5 b1
  replace b2 := bk hB5 b2
  replace hBa := bAft hB5 hBa (Nat.le_of_eq HN.out.symm)
  clear hB5 a0 a1 a2 a3 a4 a5
  obtain ⟨m, hm⟩ : ∃ m, m = meetV a b := ⟨_, rfl⟩
  rw [← hm]
  have HME := Lib.hid hm
  clear hm
  obtain ⟨a0, a1⟩ := cells2 b0
  obtain ⟨a2, a3⟩ := cells2 b1
  obtain ⟨a4, a5⟩ := cells2 b2
  have l2 := b2.lt
  have l1 := b1.lt
  have l0 := b0.lt
  go_wp2_with fail
  refine (hull_any a b _).mono ?_
  rintro e w6 ⟨rfl, hB6⟩
  rw [HH.out]
  have b3 := bk hB6 (Blk.new w5 23 #[.int .i64 m.1.1, .int .i64 m.1.2])
  replace b0 := bk hB6 (b0.alloc _)
  replace b1 := bk hB6 (b1.alloc _)
  replace b2 := bk hB6 (b2.alloc _)
  replace hBa := bAft hB6 (hBa.alloc (Nat.le_of_lt l0) _) (Nat.le_of_eq HN.out.symm)
  clear hB6 a0 a1 a2 a3 a4 a5 l0 l1 l2
  generalize hM : w5.heap.size = M at *
  have HMM := Lib.hid hM
  clear hM
  go_wp2_with fail
  have b4 := Blk.new w6 23 #[.int .i64 (min a.1 b.1), .int .i64 (max a.2 b.2)]
  have l0 := b0.lt
  replace b0 := b0.alloc (.cells #[.int .i64 (min a.1 b.1), .int .i64 (max a.2 b.2)] 23)
  replace b1 := b1.alloc (.cells #[.int .i64 (min a.1 b.1), .int .i64 (max a.2 b.2)] 23)
  replace b2 := b2.alloc (.cells #[.int .i64 (min a.1 b.1), .int .i64 (max a.2 b.2)] 23)
  replace b3 := b3.alloc (.cells #[.int .i64 (min a.1 b.1), .int .i64 (max a.2 b.2)] 23)
  replace hBa := hBa.alloc (Nat.le_of_lt l0) (.cells #[.int .i64 (min a.1 b.1), .int .i64 (max a.2 b.2)] 23)
  clear l0
  generalize w6.alloc (.cells #[.int .i64 (min a.1 b.1), .int .i64 (max a.2 b.2)] 23) = w7 at *
  generalize hH : w6.heap.size = H at *
  have HHH := Lib.hid hH
  clear hH
  have r0 := later_cell b0 0 rfl
  have r1 := later_cell b0 1 rfl
  have r2 := later_cell b1 0 rfl
  have r3 := later_cell b1 1 rfl
  have r4 := later_cell b2 0 rfl
  have r5 := later_cell b2 1 rfl
  have r6 := later_cell b4 0 rfl
  have r7 := later_cell b4 1 rfl
  have h1 : withinB a (min a.1 b.1, max a.2 b.2) = true := by rw [withinB_ok oa oh, decide_eq_true_iff]; dsimp only; omega
  have h2 : withinB b (min a.1 b.1, max a.2 b.2) = true := by rw [withinB_ok ob oh, decide_eq_true_iff]; dsimp only; omega
  have h3 : withinB (min a.1 b.1, max a.2 b.2) c = (withinB a c && withinB b c) := by
    rw [withinB_ok oh oc, withinB_ok oa oc, withinB_ok ob oc, ← Bool.decide_and]
    apply decide_eq_decide.2
    dsimp only
    omega
  cases h4 : withinB a c with
  | false =>
    rw [h4, Bool.false_and] at h3
    refine wp_region_later (by kernel_rfl) (by kernel_rfl) ?_
    repeat (first | go_big_quiet_step ((first | with_reducible exact later_of (within_eq _ _ _ h1) | with_reducible exact later_of (within_eq _ _ _ h2) | with_reducible exact later_of (within_eq _ _ _ h3) | with_reducible exact later_of (within_eq _ _ _ h4))) | quiet_step ((first | with_reducible exact later_of (within_eq _ _ _ h1) | with_reducible exact later_of (within_eq _ _ _ h2) | with_reducible exact later_of (within_eq _ _ _ h3) | with_reducible exact later_of (within_eq _ _ _ h4))))
    refine wpQuiet_nil ?_
    rintro _ ⟨s, rfl⟩
    have hB8 := s.below
    generalize s.at = w8 at *
    replace b0 := bk hB8 b0
    replace b1 := bk hB8 b1
    replace b2 := bk hB8 b2
    replace b3 := bk hB8 b3
    replace hBa := bAft hB8 hBa (Nat.le_of_eq HN.out.symm)
    clear hB8 r0 r1 r2 r3 r4 r5 r6 r7 b4
    obtain ⟨a0, a1⟩ := cells2 b0
    obtain ⟨a2, a3⟩ := cells2 b1
    obtain ⟨a4, a5⟩ := cells2 b2
    obtain ⟨a6, a7⟩ := cells2 b3
    by_cases hlt : min a.2 b.2 < max a.1 b.1
    · have hm : m = ((0, 0), 80) := by rw [HME.out, HM.out, if_pos hlt]
      subst hm
      have h5 : ¬ (withinB c a = true ∧ withinB c b = true) := by
        rw [withinB_ok oc oa, withinB_ok oc ob, decide_eq_true_iff, decide_eq_true_iff]
        unfold Ok at oc
        omega
      cases h6 : withinB c a with
      | false =>
        go_wp2_with fail
        refine (within_eq c a _ h6).mono ?_
        rintro e w9 ⟨rfl, hB9⟩
        replace hBa := bAft hB9 hBa (Nat.le_of_eq HN.out.symm)
        clear hB9 a0 a1 a2 a3 a4 a5 a6 a7
        go_wp2_with fail
        go_ret
        exact ⟨rfl, by rw [HN.out]; exact hBa⟩
      | true =>
        have h7 : withinB c b = false := by
          cases h : withinB c b
          · rfl
          · exact absurd ⟨h6, h⟩ h5
        go_wp2_with fail
        refine (within_eq c a _ h6).mono ?_
        rintro e w9 ⟨rfl, hB9⟩
        replace b0 := bk hB9 b0
        replace b1 := bk hB9 b1
        replace b2 := bk hB9 b2
        replace b3 := bk hB9 b3
        replace hBa := bAft hB9 hBa (Nat.le_of_eq HN.out.symm)
        clear hB9 a0 a1 a2 a3 a4 a5 a6 a7
        obtain ⟨a0, a1⟩ := cells2 b0
        obtain ⟨a2, a3⟩ := cells2 b1
        obtain ⟨a4, a5⟩ := cells2 b2
        obtain ⟨a6, a7⟩ := cells2 b3
        go_wp2_with fail
        refine (within_eq c b _ h7).mono ?_
        rintro e w10 ⟨rfl, hB10⟩
        replace hBa := bAft hB10 hBa (Nat.le_of_eq HN.out.symm)
        clear hB10 a0 a1 a2 a3 a4 a5 a6 a7
        go_wp2_with fail
        go_ret
        exact ⟨rfl, by rw [HN.out]; exact hBa⟩
    · have hm : m = ((max a.1 b.1, min a.2 b.2), 0) := by rw [HME.out, HM.out, if_neg hlt]
      subst hm
      have om : Ok (max a.1 b.1, min a.2 b.2) := by unfold Ok at *; dsimp only; omega
      have g1 : withinB (max a.1 b.1, min a.2 b.2) a = true := by rw [withinB_ok om oa, decide_eq_true_iff]; dsimp only; omega
      have g2 : withinB (max a.1 b.1, min a.2 b.2) b = true := by rw [withinB_ok om ob, decide_eq_true_iff]; dsimp only; omega
      have g3 : withinB c (max a.1 b.1, min a.2 b.2) = (withinB c a && withinB c b) := by
        rw [withinB_ok oc om, withinB_ok oc oa, withinB_ok oc ob, ← Bool.decide_and]
        apply decide_eq_decide.2
        dsimp only
        omega
      go_wp2_with fail
      have q0 := later_cell b0 0 rfl
      have q1 := later_cell b0 1 rfl
      have q2 := later_cell b1 0 rfl
      have q3 := later_cell b1 1 rfl
      have q4 := later_cell b2 0 rfl
      have q5 := later_cell b2 1 rfl
      have q6 := later_cell b3 0 rfl
      have q7 := later_cell b3 1 rfl
      clear a0 a1 a2 a3 a4 a5 a6 a7
      cases g4 : withinB c a with
      | false =>
        rw [g4, Bool.false_and] at g3
        refine wp_region_later (by kernel_rfl) (by kernel_rfl) ?_
        repeat (first | go_big_quiet_step ((first | with_reducible exact later_of (within_eq _ _ _ g1) | with_reducible exact later_of (within_eq _ _ _ g2) | with_reducible exact later_of (within_eq _ _ _ g3) | with_reducible exact later_of (within_eq _ _ _ g4))) | quiet_step ((first | with_reducible exact later_of (within_eq _ _ _ g1) | with_reducible exact later_of (within_eq _ _ _ g2) | with_reducible exact later_of (within_eq _ _ _ g3) | with_reducible exact later_of (within_eq _ _ _ g4))))
        refine wpQuiet_nil ?_
        rintro _ ⟨s, rfl⟩
        have hB9 := s.below
        generalize s.at = w9 at *
        go_wp2_with fail
        go_ret
        exact ⟨rfl, by rw [HN.out]; exact bAft hB9 hBa (Nat.le_of_eq HN.out.symm)⟩
      | true =>
        rw [g4, Bool.true_and] at g3
        cases g5 : withinB c b with
        | false =>
          rw [g5] at g3
          refine wp_region_later (by kernel_rfl) (by kernel_rfl) ?_
          repeat (first | go_big_quiet_step ((first | with_reducible exact later_of (within_eq _ _ _ g1) | with_reducible exact later_of (within_eq _ _ _ g2) | with_reducible exact later_of (within_eq _ _ _ g3) | with_reducible exact later_of (within_eq _ _ _ g4) | with_reducible exact later_of (within_eq _ _ _ g5))) | quiet_step ((first | with_reducible exact later_of (within_eq _ _ _ g1) | with_reducible exact later_of (within_eq _ _ _ g2) | with_reducible exact later_of (within_eq _ _ _ g3) | with_reducible exact later_of (within_eq _ _ _ g4) | with_reducible exact later_of (within_eq _ _ _ g5))))
          refine wpQuiet_nil ?_
          rintro _ ⟨s, rfl⟩
          have hB9 := s.below
          generalize s.at = w9 at *
          go_wp2_with fail
          go_ret
          exact ⟨rfl, by rw [HN.out]; exact bAft hB9 hBa (Nat.le_of_eq HN.out.symm)⟩
        | true =>
          rw [g5] at g3
          refine wp_region_later (by kernel_rfl) (by kernel_rfl) ?_
          repeat (first | go_big_quiet_step ((first | with_reducible exact later_of (within_eq _ _ _ g1) | with_reducible exact later_of (within_eq _ _ _ g2) | with_reducible exact later_of (within_eq _ _ _ g3) | with_reducible exact later_of (within_eq _ _ _ g4) | with_reducible exact later_of (within_eq _ _ _ g5))) | quiet_step ((first | with_reducible exact later_of (within_eq _ _ _ g1) | with_reducible exact later_of (within_eq _ _ _ g2) | with_reducible exact later_of (within_eq _ _ _ g3) | with_reducible exact later_of (within_eq _ _ _ g4) | with_reducible exact later_of (within_eq _ _ _ g5))))
          refine wpQuiet_nil ?_
          rintro _ ⟨s, rfl⟩
          have hB9 := s.below
          generalize s.at = w9 at *
          go_wp2_with fail
          go_ret
          exact ⟨rfl, by rw [HN.out]; exact bAft hB9 hBa (Nat.le_of_eq HN.out.symm)⟩
  | true =>
    rw [h4, Bool.true_and] at h3
    cases h8 : withinB b c with
    | false =>
      rw [h8] at h3
      refine wp_region_later (by kernel_rfl) (by kernel_rfl) ?_
      repeat (first | go_big_quiet_step ((first | with_reducible exact later_of (within_eq _ _ _ h1) | with_reducible exact later_of (within_eq _ _ _ h2) | with_reducible exact later_of (within_eq _ _ _ h3) | with_reducible exact later_of (within_eq _ _ _ h4) | with_reducible exact later_of (within_eq _ _ _ h8))) | quiet_step ((first | with_reducible exact later_of (within_eq _ _ _ h1) | with_reducible exact later_of (within_eq _ _ _ h2) | with_reducible exact later_of (within_eq _ _ _ h3) | with_reducible exact later_of (within_eq _ _ _ h4) | with_reducible exact later_of (within_eq _ _ _ h8))))
      refine wpQuiet_nil ?_
      rintro _ ⟨s, rfl⟩
      have hB8 := s.below
      generalize s.at = w8 at *
      replace b0 := bk hB8 b0
      replace b1 := bk hB8 b1
      replace b2 := bk hB8 b2
      replace b3 := bk hB8 b3
      replace hBa := bAft hB8 hBa (Nat.le_of_eq HN.out.symm)
      clear hB8 r0 r1 r2 r3 r4 r5 r6 r7 b4
      obtain ⟨a0, a1⟩ := cells2 b0
      obtain ⟨a2, a3⟩ := cells2 b1
      obtain ⟨a4, a5⟩ := cells2 b2
      obtain ⟨a6, a7⟩ := cells2 b3
      by_cases hlt : min a.2 b.2 < max a.1 b.1
      · have hm : m = ((0, 0), 80) := by rw [HME.out, HM.out, if_pos hlt]
        subst hm
        have h5 : ¬ (withinB c a = true ∧ withinB c b = true) := by
          rw [withinB_ok oc oa, withinB_ok oc ob, decide_eq_true_iff, decide_eq_true_iff]
          unfold Ok at oc
          omega
        cases h6 : withinB c a with
        | false =>
          go_wp2_with fail
          refine (within_eq c a _ h6).mono ?_
          rintro e w9 ⟨rfl, hB9⟩
          replace hBa := bAft hB9 hBa (Nat.le_of_eq HN.out.symm)
          clear hB9 a0 a1 a2 a3 a4 a5 a6 a7
          go_wp2_with fail
          go_ret
          exact ⟨rfl, by rw [HN.out]; exact hBa⟩
        | true =>
          have h7 : withinB c b = false := by
            cases h : withinB c b
            · rfl
            · exact absurd ⟨h6, h⟩ h5
          go_wp2_with fail
          refine (within_eq c a _ h6).mono ?_
          rintro e w9 ⟨rfl, hB9⟩
          replace b0 := bk hB9 b0
          replace b1 := bk hB9 b1
          replace b2 := bk hB9 b2
          replace b3 := bk hB9 b3
          replace hBa := bAft hB9 hBa (Nat.le_of_eq HN.out.symm)
          clear hB9 a0 a1 a2 a3 a4 a5 a6 a7
          obtain ⟨a0, a1⟩ := cells2 b0
          obtain ⟨a2, a3⟩ := cells2 b1
          obtain ⟨a4, a5⟩ := cells2 b2
          obtain ⟨a6, a7⟩ := cells2 b3
          go_wp2_with fail
          refine (within_eq c b _ h7).mono ?_
          rintro e w10 ⟨rfl, hB10⟩
          replace hBa := bAft hB10 hBa (Nat.le_of_eq HN.out.symm)
          clear hB10 a0 a1 a2 a3 a4 a5 a6 a7
          go_wp2_with fail
          go_ret
          exact ⟨rfl, by rw [HN.out]; exact hBa⟩
      · have hm : m = ((max a.1 b.1, min a.2 b.2), 0) := by rw [HME.out, HM.out, if_neg hlt]
        subst hm
        have om : Ok (max a.1 b.1, min a.2 b.2) := by unfold Ok at *; dsimp only; omega
        have g1 : withinB (max a.1 b.1, min a.2 b.2) a = true := by rw [withinB_ok om oa, decide_eq_true_iff]; dsimp only; omega
        have g2 : withinB (max a.1 b.1, min a.2 b.2) b = true := by rw [withinB_ok om ob, decide_eq_true_iff]; dsimp only; omega
        have g3 : withinB c (max a.1 b.1, min a.2 b.2) = (withinB c a && withinB c b) := by
          rw [withinB_ok oc om, withinB_ok oc oa, withinB_ok oc ob, ← Bool.decide_and]
          apply decide_eq_decide.2
          dsimp only
          omega
        go_wp2_with fail
        have q0 := later_cell b0 0 rfl
        have q1 := later_cell b0 1 rfl
        have q2 := later_cell b1 0 rfl
        have q3 := later_cell b1 1 rfl
        have q4 := later_cell b2 0 rfl
        have q5 := later_cell b2 1 rfl
        have q6 := later_cell b3 0 rfl
        have q7 := later_cell b3 1 rfl
        clear a0 a1 a2 a3 a4 a5 a6 a7
        cases g4 : withinB c a with
        | false =>
          rw [g4, Bool.false_and] at g3
          refine wp_region_later (by kernel_rfl) (by kernel_rfl) ?_
          repeat (first | go_big_quiet_step ((first | with_reducible exact later_of (within_eq _ _ _ g1) | with_reducible exact later_of (within_eq _ _ _ g2) | with_reducible exact later_of (within_eq _ _ _ g3) | with_reducible exact later_of (within_eq _ _ _ g4))) | quiet_step ((first | with_reducible exact later_of (within_eq _ _ _ g1) | with_reducible exact later_of (within_eq _ _ _ g2) | with_reducible exact later_of (within_eq _ _ _ g3) | with_reducible exact later_of (within_eq _ _ _ g4))))
          refine wpQuiet_nil ?_
          rintro _ ⟨s, rfl⟩
          have hB9 := s.below
          generalize s.at = w9 at *
          go_wp2_with fail
          go_ret
          exact ⟨rfl, by rw [HN.out]; exact bAft hB9 hBa (Nat.le_of_eq HN.out.symm)⟩
        | true =>
          rw [g4, Bool.true_and] at g3
          cases g5 : withinB c b with
          | false =>
            rw [g5] at g3
            refine wp_region_later (by kernel_rfl) (by kernel_rfl) ?_
            repeat (first | go_big_quiet_step ((first | with_reducible exact later_of (within_eq _ _ _ g1) | with_reducible exact later_of (within_eq _ _ _ g2) | with_reducible exact later_of (within_eq _ _ _ g3) | with_reducible exact later_of (within_eq _ _ _ g4) | with_reducible exact later_of (within_eq _ _ _ g5))) | quiet_step ((first | with_reducible exact later_of (within_eq _ _ _ g1) | with_reducible exact later_of (within_eq _ _ _ g2) | with_reducible exact later_of (within_eq _ _ _ g3) | with_reducible exact later_of (within_eq _ _ _ g4) | with_reducible exact later_of (within_eq _ _ _ g5))))
            refine wpQuiet_nil ?_
            rintro _ ⟨s, rfl⟩
            have hB9 := s.below
            generalize s.at = w9 at *
            go_wp2_with fail
            go_ret
            exact ⟨rfl, by rw [HN.out]; exact bAft hB9 hBa (Nat.le_of_eq HN.out.symm)⟩
          | true =>
            rw [g5] at g3
            refine wp_region_later (by kernel_rfl) (by kernel_rfl) ?_
            repeat (first | go_big_quiet_step ((first | with_reducible exact later_of (within_eq _ _ _ g1) | with_reducible exact later_of (within_eq _ _ _ g2) | with_reducible exact later_of (within_eq _ _ _ g3) | with_reducible exact later_of (within_eq _ _ _ g4) | with_reducible exact later_of (within_eq _ _ _ g5))) | quiet_step ((first | with_reducible exact later_of (within_eq _ _ _ g1) | with_reducible exact later_of (within_eq _ _ _ g2) | with_reducible exact later_of (within_eq _ _ _ g3) | with_reducible exact later_of (within_eq _ _ _ g4) | with_reducible exact later_of (within_eq _ _ _ g5))))
            refine wpQuiet_nil ?_
            rintro _ ⟨s, rfl⟩
            have hB9 := s.below
            generalize s.at = w9 at *
            go_wp2_with fail
            go_ret
            exact ⟨rfl, by rw [HN.out]; exact bAft hB9 hBa (Nat.le_of_eq HN.out.symm)⟩
    | true =>
      rw [h8] at h3
      refine wp_region_later (by kernel_rfl) (by kernel_rfl) ?_
      repeat (first | go_big_quiet_step ((first | with_reducible exact later_of (within_eq _ _ _ h1) | with_reducible exact later_of (within_eq _ _ _ h2) | with_reducible exact later_of (within_eq _ _ _ h3) | with_reducible exact later_of (within_eq _ _ _ h4) | with_reducible exact later_of (within_eq _ _ _ h8))) | quiet_step ((first | with_reducible exact later_of (within_eq _ _ _ h1) | with_reducible exact later_of (within_eq _ _ _ h2) | with_reducible exact later_of (within_eq _ _ _ h3) | with_reducible exact later_of (within_eq _ _ _ h4) | with_reducible exact later_of (within_eq _ _ _ h8))))
      refine wpQuiet_nil ?_
      rintro _ ⟨s, rfl⟩
      have hB8 := s.below
      generalize s.at = w8 at *
      replace b0 := bk hB8 b0
      replace b1 := bk hB8 b1
      replace b2 := bk hB8 b2
      replace b3 := bk hB8 b3
      replace hBa := bAft hB8 hBa (Nat.le_of_eq HN.out.symm)
      clear hB8 r0 r1 r2 r3 r4 r5 r6 r7 b4
      obtain ⟨a0, a1⟩ := cells2 b0
      obtain ⟨a2, a3⟩ := cells2 b1
      obtain ⟨a4, a5⟩ := cells2 b2
      obtain ⟨a6, a7⟩ := cells2 b3
      by_cases hlt : min a.2 b.2 < max a.1 b.1
      · have hm : m = ((0, 0), 80) := by rw [HME.out, HM.out, if_pos hlt]
        subst hm
        have h5 : ¬ (withinB c a = true ∧ withinB c b = true) := by
          rw [withinB_ok oc oa, withinB_ok oc ob, decide_eq_true_iff, decide_eq_true_iff]
          unfold Ok at oc
          omega
        cases h6 : withinB c a with
        | false =>
          go_wp2_with fail
          refine (within_eq c a _ h6).mono ?_
          rintro e w9 ⟨rfl, hB9⟩
          replace hBa := bAft hB9 hBa (Nat.le_of_eq HN.out.symm)
          clear hB9 a0 a1 a2 a3 a4 a5 a6 a7
          go_wp2_with fail
          go_ret
          exact ⟨rfl, by rw [HN.out]; exact hBa⟩
        | true =>
          have h7 : withinB c b = false := by
            cases h : withinB c b
            · rfl
            · exact absurd ⟨h6, h⟩ h5
          go_wp2_with fail
          refine (within_eq c a _ h6).mono ?_
          rintro e w9 ⟨rfl, hB9⟩
          replace b0 := bk hB9 b0
          replace b1 := bk hB9 b1
          replace b2 := bk hB9 b2
          replace b3 := bk hB9 b3
          replace hBa := bAft hB9 hBa (Nat.le_of_eq HN.out.symm)
          clear hB9 a0 a1 a2 a3 a4 a5 a6 a7
          obtain ⟨a0, a1⟩ := cells2 b0
          obtain ⟨a2, a3⟩ := cells2 b1
          obtain ⟨a4, a5⟩ := cells2 b2
          obtain ⟨a6, a7⟩ := cells2 b3
          go_wp2_with fail
          refine (within_eq c b _ h7).mono ?_
          rintro e w10 ⟨rfl, hB10⟩
          replace hBa := bAft hB10 hBa (Nat.le_of_eq HN.out.symm)
          clear hB10 a0 a1 a2 a3 a4 a5 a6 a7
          go_wp2_with fail
          go_ret
          exact ⟨rfl, by rw [HN.out]; exact hBa⟩
      · have hm : m = ((max a.1 b.1, min a.2 b.2), 0) := by rw [HME.out, HM.out, if_neg hlt]
        subst hm
        have om : Ok (max a.1 b.1, min a.2 b.2) := by unfold Ok at *; dsimp only; omega
        have g1 : withinB (max a.1 b.1, min a.2 b.2) a = true := by rw [withinB_ok om oa, decide_eq_true_iff]; dsimp only; omega
        have g2 : withinB (max a.1 b.1, min a.2 b.2) b = true := by rw [withinB_ok om ob, decide_eq_true_iff]; dsimp only; omega
        have g3 : withinB c (max a.1 b.1, min a.2 b.2) = (withinB c a && withinB c b) := by
          rw [withinB_ok oc om, withinB_ok oc oa, withinB_ok oc ob, ← Bool.decide_and]
          apply decide_eq_decide.2
          dsimp only
          omega
        go_wp2_with fail
        have q0 := later_cell b0 0 rfl
        have q1 := later_cell b0 1 rfl
        have q2 := later_cell b1 0 rfl
        have q3 := later_cell b1 1 rfl
        have q4 := later_cell b2 0 rfl
        have q5 := later_cell b2 1 rfl
        have q6 := later_cell b3 0 rfl
        have q7 := later_cell b3 1 rfl
        clear a0 a1 a2 a3 a4 a5 a6 a7
        cases g4 : withinB c a with
        | false =>
          rw [g4, Bool.false_and] at g3
          refine wp_region_later (by kernel_rfl) (by kernel_rfl) ?_
          repeat (first | go_big_quiet_step ((first | with_reducible exact later_of (within_eq _ _ _ g1) | with_reducible exact later_of (within_eq _ _ _ g2) | with_reducible exact later_of (within_eq _ _ _ g3) | with_reducible exact later_of (within_eq _ _ _ g4))) | quiet_step ((first | with_reducible exact later_of (within_eq _ _ _ g1) | with_reducible exact later_of (within_eq _ _ _ g2) | with_reducible exact later_of (within_eq _ _ _ g3) | with_reducible exact later_of (within_eq _ _ _ g4))))
          refine wpQuiet_nil ?_
          rintro _ ⟨s, rfl⟩
          have hB9 := s.below
          generalize s.at = w9 at *
          go_wp2_with fail
          go_ret
          exact ⟨rfl, by rw [HN.out]; exact bAft hB9 hBa (Nat.le_of_eq HN.out.symm)⟩
        | true =>
          rw [g4, Bool.true_and] at g3
          cases g5 : withinB c b with
          | false =>
            rw [g5] at g3
            refine wp_region_later (by kernel_rfl) (by kernel_rfl) ?_
            repeat (first | go_big_quiet_step ((first | with_reducible exact later_of (within_eq _ _ _ g1) | with_reducible exact later_of (within_eq _ _ _ g2) | with_reducible exact later_of (within_eq _ _ _ g3) | with_reducible exact later_of (within_eq _ _ _ g4) | with_reducible exact later_of (within_eq _ _ _ g5))) | quiet_step ((first | with_reducible exact later_of (within_eq _ _ _ g1) | with_reducible exact later_of (within_eq _ _ _ g2) | with_reducible exact later_of (within_eq _ _ _ g3) | with_reducible exact later_of (within_eq _ _ _ g4) | with_reducible exact later_of (within_eq _ _ _ g5))))
            refine wpQuiet_nil ?_
            rintro _ ⟨s, rfl⟩
            have hB9 := s.below
            generalize s.at = w9 at *
            go_wp2_with fail
            go_ret
            exact ⟨rfl, by rw [HN.out]; exact bAft hB9 hBa (Nat.le_of_eq HN.out.symm)⟩
          | true =>
            rw [g5] at g3
            refine wp_region_later (by kernel_rfl) (by kernel_rfl) ?_
            repeat (first | go_big_quiet_step ((first | with_reducible exact later_of (within_eq _ _ _ g1) | with_reducible exact later_of (within_eq _ _ _ g2) | with_reducible exact later_of (within_eq _ _ _ g3) | with_reducible exact later_of (within_eq _ _ _ g4) | with_reducible exact later_of (within_eq _ _ _ g5))) | quiet_step ((first | with_reducible exact later_of (within_eq _ _ _ g1) | with_reducible exact later_of (within_eq _ _ _ g2) | with_reducible exact later_of (within_eq _ _ _ g3) | with_reducible exact later_of (within_eq _ _ _ g4) | with_reducible exact later_of (within_eq _ _ _ g5))))
            refine wpQuiet_nil ?_
            rintro _ ⟨s, rfl⟩
            have hB9 := s.below
            generalize s.at = w9 at *
            go_wp2_with fail
            go_ret
            exact ⟨rfl, by rw [HN.out]; exact bAft hB9 hBa (Nat.le_of_eq HN.out.symm)⟩

end Go.Proofs.Ytidaklcinddghaa
