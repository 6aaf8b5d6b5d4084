/- Proof of IntervalLattice: for all intervals a, b, c the law returns true. No conditions. -/
import Derived.Test.YtidaklcinddghaaC0
import Derived.Test.YtidaklcinddghaaOp
namespace Go.Proofs.Ytidaklcinddghaa
open Go.ChangeShapes Go.WideShapes Go.ChangeAt Go.RowKit Go.Shelf

set_option maxRecDepth 100000 in
set_option maxHeartbeats 4000000 in
theorem lattice_no (a b c : Int × Int) (w : World) (h : ¬ (chk a = 0 ∧ chk b = 0 ∧ chk c = 0)) :
    Calls Try.prog 9 #[ivV a, ivV b, ivV c] w fun e w' => e = .returned (.bool true) ∧ Below w.heap.size w w' := by
  by_cases ha : chk a = 0
  · have HA := Lib.hid ha
    by_cases hb : chk b = 0
    · have hc : chk c ≠ 0 := fun hc => h ⟨ha, hb, hc⟩
      have HB := Lib.hid hb
      have W2 := withinB_no (x := b) (y := c) (.inr hc)
      clear h ha hb
      obtain ⟨k, hk⟩ : ∃ k, chk c = k := ⟨_, rfl⟩
      have nk : (k != 0) = true := neq_int_true (by rw [← hk]; exact hc)
      have Hk := Lib.hid hk
      clear hk hc
      cases W1 : withinB a b with
      | false =>
        go_enter Try.func9, Try.ntmps9
        go_wp2_with fail
        refine (sane_any _).mono ?_
        rintro e w1 ⟨rfl, hB1⟩
        have hBa := bAfter (bAl (bAl (bAl (Below.refl _ w) _) _) _) hB1
        have b0 : Blk w1 w.heap.size 23 #[.int .i64 a.1, .int .i64 a.2] := bk hB1 (((Blk.new _ _ _).alloc _).alloc _)
        have b1 : Blk w1 (w.heap.size + 1) 23 #[.int .i64 b.1, .int .i64 b.2] := bk hB1 ((Blk.newAt _ _ _ (by simp)).alloc _)
        have b2 : Blk w1 (w.heap.size + 1 + 1) 23 #[.int .i64 c.1, .int .i64 c.2] := bk hB1 (Blk.newAt _ _ _ (by simp))
        clear hB1
        generalize hN : w.heap.size = N at *
        have HN := Lib.hid hN
        clear hN
        obtain ⟨a0, a1⟩ := cells2 b0
        obtain ⟨a2, a3⟩ := cells2 b1
        obtain ⟨a4, a5⟩ := cells2 b2
        go_wp2_with fail
        refine (check_eq a _ HA.out).mono ?_
        rintro e w2 ⟨rfl, hB2⟩
        replace b0 := bk hB2 b0
        replace b1 := bk hB2 b1
        replace b2 := bk hB2 b2
        replace hBa := bAft hB2 hBa (Nat.le_of_eq HN.out.symm)
        clear hB2 a0 a1 a2 a3 a4 a5
        obtain ⟨a0, a1⟩ := cells2 b0
        obtain ⟨a2, a3⟩ := cells2 b1
        obtain ⟨a4, a5⟩ := cells2 b2
        go_wp2_with fail
        refine (check_eq b _ HB.out).mono ?_
        rintro e w3 ⟨rfl, hB3⟩
        replace b0 := bk hB3 b0
        replace b1 := bk hB3 b1
        replace b2 := bk hB3 b2
        replace hBa := bAft hB3 hBa (Nat.le_of_eq HN.out.symm)
        clear hB3 a0 a1 a2 a3 a4 a5
        obtain ⟨a0, a1⟩ := cells2 b0
        obtain ⟨a2, a3⟩ := cells2 b1
        obtain ⟨a4, a5⟩ := cells2 b2
        go_wp2_with fail
        refine (check_eq c _ Hk.out).mono ?_
        rintro e w4 ⟨rfl, hB4⟩
        replace b0 := bk hB4 b0
        replace b1 := bk hB4 b1
        replace b2 := bk hB4 b2
        replace hBa := bAft hB4 hBa (Nat.le_of_eq HN.out.symm)
        clear hB4 a0 a1 a2 a3 a4 a5
        obtain ⟨a0, a1⟩ := cells2 b0
        obtain ⟨a2, a3⟩ := cells2 b1
        obtain ⟨a4, a5⟩ := cells2 b2
        go_wp2_with fail
        refine (within_eq a b _ W1).mono ?_
        rintro e w5 ⟨rfl, hB5⟩
        replace b0 := bk hB5 b0
        replace b1 := bk hB5 b1
        replace b2 := bk hB5 b2
        replace hBa := bAft hB5 hBa (Nat.le_of_eq HN.out.symm)
        clear hB5 a0 a1 a2 a3 a4 a5
        obtain ⟨a0, a1⟩ := cells2 b0
        obtain ⟨a2, a3⟩ := cells2 b1
        obtain ⟨a4, a5⟩ := cells2 b2
        go_wp2_with fail
        go_ret
        exact ⟨rfl, by rw [HN.out]; exact hBa⟩
      | true =>
        go_enter Try.func9, Try.ntmps9
        go_wp2_with fail
        refine (sane_any _).mono ?_
        rintro e w1 ⟨rfl, hB1⟩
        have hBa := bAfter (bAl (bAl (bAl (Below.refl _ w) _) _) _) hB1
        have b0 : Blk w1 w.heap.size 23 #[.int .i64 a.1, .int .i64 a.2] := bk hB1 (((Blk.new _ _ _).alloc _).alloc _)
        have b1 : Blk w1 (w.heap.size + 1) 23 #[.int .i64 b.1, .int .i64 b.2] := bk hB1 ((Blk.newAt _ _ _ (by simp)).alloc _)
        have b2 : Blk w1 (w.heap.size + 1 + 1) 23 #[.int .i64 c.1, .int .i64 c.2] := bk hB1 (Blk.newAt _ _ _ (by simp))
        clear hB1
        generalize hN : w.heap.size = N at *
        have HN := Lib.hid hN
        clear hN
        obtain ⟨a0, a1⟩ := cells2 b0
        obtain ⟨a2, a3⟩ := cells2 b1
        obtain ⟨a4, a5⟩ := cells2 b2
        go_wp2_with fail
        refine (check_eq a _ HA.out).mono ?_
        rintro e w2 ⟨rfl, hB2⟩
        replace b0 := bk hB2 b0
        replace b1 := bk hB2 b1
        replace b2 := bk hB2 b2
        replace hBa := bAft hB2 hBa (Nat.le_of_eq HN.out.symm)
        clear hB2 a0 a1 a2 a3 a4 a5
        obtain ⟨a0, a1⟩ := cells2 b0
        obtain ⟨a2, a3⟩ := cells2 b1
        obtain ⟨a4, a5⟩ := cells2 b2
        go_wp2_with fail
        refine (check_eq b _ HB.out).mono ?_
        rintro e w3 ⟨rfl, hB3⟩
        replace b0 := bk hB3 b0
        replace b1 := bk hB3 b1
        replace b2 := bk hB3 b2
        replace hBa := bAft hB3 hBa (Nat.le_of_eq HN.out.symm)
        clear hB3 a0 a1 a2 a3 a4 a5
        obtain ⟨a0, a1⟩ := cells2 b0
        obtain ⟨a2, a3⟩ := cells2 b1
        obtain ⟨a4, a5⟩ := cells2 b2
        go_wp2_with fail
        refine (check_eq c _ Hk.out).mono ?_
        rintro e w4 ⟨rfl, hB4⟩
        replace b0 := bk hB4 b0
        replace b1 := bk hB4 b1
        replace b2 := bk hB4 b2
        replace hBa := bAft hB4 hBa (Nat.le_of_eq HN.out.symm)
        clear hB4 a0 a1 a2 a3 a4 a5
        obtain ⟨a0, a1⟩ := cells2 b0
        obtain ⟨a2, a3⟩ := cells2 b1
        obtain ⟨a4, a5⟩ := cells2 b2
        go_wp2_with fail
        refine (within_eq a b _ W1).mono ?_
        rintro e w5 ⟨rfl, hB5⟩
        replace b0 := bk hB5 b0
        replace b1 := bk hB5 b1
        replace b2 := bk hB5 b2
        replace hBa := bAft hB5 hBa (Nat.le_of_eq HN.out.symm)
        clear hB5 a0 a1 a2 a3 a4 a5
        obtain ⟨a0, a1⟩ := cells2 b0
        obtain ⟨a2, a3⟩ := cells2 b1
        obtain ⟨a4, a5⟩ := cells2 b2
        go_wp2_with fail
        refine (within_eq b c _ W2).mono ?_
        rintro e w6 ⟨rfl, hB6⟩
        replace b0 := bk hB6 b0
        replace b1 := bk hB6 b1
        replace b2 := bk hB6 b2
        replace hBa := bAft hB6 hBa (Nat.le_of_eq HN.out.symm)
        clear hB6 a0 a1 a2 a3 a4 a5
        obtain ⟨a0, a1⟩ := cells2 b0
        obtain ⟨a2, a3⟩ := cells2 b1
        obtain ⟨a4, a5⟩ := cells2 b2
        go_wp2_with fail
        go_ret
        exact ⟨rfl, by rw [HN.out]; exact hBa⟩
    · have W1 := withinB_no (x := a) (y := b) (.inr hb)
      clear h ha
      obtain ⟨k, hk⟩ : ∃ k, chk b = k := ⟨_, rfl⟩
      have nk : (k != 0) = true := neq_int_true (by rw [← hk]; exact hb)
      have Hk := Lib.hid hk
      clear hk hb
      go_enter Try.func9, Try.ntmps9
      go_wp2_with fail
      refine (sane_any _).mono ?_
      rintro e w1 ⟨rfl, hB1⟩
      have hBa := bAfter (bAl (bAl (bAl (Below.refl _ w) _) _) _) hB1
      have b0 : Blk w1 w.heap.size 23 #[.int .i64 a.1, .int .i64 a.2] := bk hB1 (((Blk.new _ _ _).alloc _).alloc _)
      have b1 : Blk w1 (w.heap.size + 1) 23 #[.int .i64 b.1, .int .i64 b.2] := bk hB1 ((Blk.newAt _ _ _ (by simp)).alloc _)
      have b2 : Blk w1 (w.heap.size + 1 + 1) 23 #[.int .i64 c.1, .int .i64 c.2] := bk hB1 (Blk.newAt _ _ _ (by simp))
      clear hB1
      generalize hN : w.heap.size = N at *
      have HN := Lib.hid hN
      clear hN
      obtain ⟨a0, a1⟩ := cells2 b0
      obtain ⟨a2, a3⟩ := cells2 b1
      obtain ⟨a4, a5⟩ := cells2 b2
      go_wp2_with fail
      refine (check_eq a _ HA.out).mono ?_
      rintro e w2 ⟨rfl, hB2⟩
      replace b0 := bk hB2 b0
      replace b1 := bk hB2 b1
      replace b2 := bk hB2 b2
      replace hBa := bAft hB2 hBa (Nat.le_of_eq HN.out.symm)
      clear hB2 a0 a1 a2 a3 a4 a5
      obtain ⟨a0, a1⟩ := cells2 b0
      obtain ⟨a2, a3⟩ := cells2 b1
      obtain ⟨a4, a5⟩ := cells2 b2
      go_wp2_with fail
      refine (check_eq b _ Hk.out).mono ?_
      rintro e w3 ⟨rfl, hB3⟩
      replace b0 := bk hB3 b0
      replace b1 := bk hB3 b1
      replace b2 := bk hB3 b2
      replace hBa := bAft hB3 hBa (Nat.le_of_eq HN.out.symm)
      clear hB3 a0 a1 a2 a3 a4 a5
      obtain ⟨a0, a1⟩ := cells2 b0
      obtain ⟨a2, a3⟩ := cells2 b1
      obtain ⟨a4, a5⟩ := cells2 b2
      go_wp2_with fail
      refine (within_eq a b _ W1).mono ?_
      rintro e w5 ⟨rfl, hB5⟩
      replace b0 := bk hB5 b0
      replace b1 := bk hB5 b1
      replace b2 := bk hB5 b2
      replace hBa := bAft hB5 hBa (Nat.le_of_eq HN.out.symm)
      clear hB5 a0 a1 a2 a3 a4 a5
      obtain ⟨a0, a1⟩ := cells2 b0
      obtain ⟨a2, a3⟩ := cells2 b1
      obtain ⟨a4, a5⟩ := cells2 b2
      go_wp2_with fail
      go_ret
      exact ⟨rfl, by rw [HN.out]; exact hBa⟩
  · have W1 := withinB_no (x := a) (y := b) (.inl ha)
    clear h
    obtain ⟨k, hk⟩ : ∃ k, chk a = k := ⟨_, rfl⟩
    have nk : (k != 0) = true := neq_int_true (by rw [← hk]; exact ha)
    have Hk := Lib.hid hk
    clear hk ha
    go_enter Try.func9, Try.ntmps9
    go_wp2_with fail
    refine (sane_any _).mono ?_
    rintro e w1 ⟨rfl, hB1⟩
    have hBa := bAfter (bAl (bAl (bAl (Below.refl _ w) _) _) _) hB1
    have b0 : Blk w1 w.heap.size 23 #[.int .i64 a.1, .int .i64 a.2] := bk hB1 (((Blk.new _ _ _).alloc _).alloc _)
    have b1 : Blk w1 (w.heap.size + 1) 23 #[.int .i64 b.1, .int .i64 b.2] := bk hB1 ((Blk.newAt _ _ _ (by simp)).alloc _)
    have b2 : Blk w1 (w.heap.size + 1 + 1) 23 #[.int .i64 c.1, .int .i64 c.2] := bk hB1 (Blk.newAt _ _ _ (by simp))
    clear hB1
    generalize hN : w.heap.size = N at *
    have HN := Lib.hid hN
    clear hN
    obtain ⟨a0, a1⟩ := cells2 b0
    obtain ⟨a2, a3⟩ := cells2 b1
    obtain ⟨a4, a5⟩ := cells2 b2
    go_wp2_with fail
    refine (check_eq a _ Hk.out).mono ?_
    rintro e w2 ⟨rfl, hB2⟩
    replace b0 := bk hB2 b0
    replace b1 := bk hB2 b1
    replace b2 := bk hB2 b2
    replace hBa := bAft hB2 hBa (Nat.le_of_eq HN.out.symm)
    clear hB2 a0 a1 a2 a3 a4 a5
    obtain ⟨a0, a1⟩ := cells2 b0
    obtain ⟨a2, a3⟩ := cells2 b1
    obtain ⟨a4, a5⟩ := cells2 b2
    go_wp2_with fail
    refine (within_eq a b _ W1).mono ?_
    rintro e w5 ⟨rfl, hB5⟩
    replace b0 := bk hB5 b0
    replace b1 := bk hB5 b1
    replace b2 := bk hB5 b2
    replace hBa := bAft hB5 hBa (Nat.le_of_eq HN.out.symm)
    clear hB5 a0 a1 a2 a3 a4 a5
    obtain ⟨a0, a1⟩ := cells2 b0
    obtain ⟨a2, a3⟩ := cells2 b1
    obtain ⟨a4, a5⟩ := cells2 b2
    go_wp2_with fail
    go_ret
    exact ⟨rfl, by rw [HN.out]; exact hBa⟩

theorem lattice_any (a b c : Int × Int) (w : World) : Calls Try.prog 9 #[ivV a, ivV b, ivV c] w fun e w' => e = .returned (.bool true) ∧ Below w.heap.size w w' := by
  by_cases h : chk a = 0 ∧ chk b = 0 ∧ chk c = 0
  · exact lattice_ok a b c w h.1 h.2.1 h.2.2
  · exact lattice_no a b c w h
set_option maxRecDepth 100000 in
theorem intervalLattice_lifted (os : Os) (started : os.Started) (H : Type) (enc : TypeId × Value → H) :
    ReturnsInHanded {} Try.checked os 9 .any (Rows.intervalLatticeSpec.pre6 enc Try.prog Try.f9 Rows.intervalLatticeRow.domain false) (Rows.intervalLatticeSpec.post enc Try.prog Try.f9 false true false false) := by
  refine returnsInHanded_of_change (C := Try.checked) own started (by kernel_rfl) Try.func9
    (ChangeSpec.witness6 (enc := enc) (C := Try.checked) false ⟨#[], #[.agg #[.int .i64 0, .int .i64 0], .agg #[.int .i64 0, .int .i64 0], .agg #[.int .i64 0, .int .i64 0]], []⟩ 8 (by kernel_rfl) (by kernel_rfl) (by kernel_rfl) (by kernel_rfl)) ?_
  intro W base args ds gs before hval0 hW hcnd _
  have hval : ∀ (j : Nat) t v, Try.f9.params[j]? = some t → args[j]? = some v → Value.okWide Try.prog W .any base t v := hval0
  have hW' := hW
  obtain ⟨p, q, hA0, hV, rfl, hfz, hnd⟩ := hW
  have hA : DataW.TrodAll enc Try.prog W 0 (fun _ => true) true Try.f9.params.toList args.toList ds p := hA0
  rw [Try.params9] at hA hval
  obtain ⟨v0, vs0, d0, ds0, p0, q0, hargs, rfl, rfl, h0, r0⟩ := trodAll_cons hA
  obtain ⟨v1, vs1, d1, ds1, p1, q1, rfl, rfl, rfl, h1, r1⟩ := trodAll_cons r0
  obtain ⟨v2, vs2, d2, ds2, p2, q2, rfl, rfl, rfl, h2, r2⟩ := trodAll_cons r1
  obtain ⟨rfl, rfl, rfl⟩ := trodAll_nil r2
  obtain rfl : args = #[v0, v1, v2] := by cases args; simp_all
  obtain ⟨rfl, rfl⟩ := trodVars_none hV
  have k0 := h0
  have lt0 : ∀ x ∈ p0, x.block < W.heap.size := by obtain ⟨m, hm⟩ := k0; exact DataW.trod_lt m _ _ _ hm
  obtain ⟨a0, rfl⟩ := open_iv (hval 0 23 v0 rfl rfl) h0
  have k1 := h1
  have lt1 : ∀ x ∈ p1, x.block < W.heap.size := by obtain ⟨m, hm⟩ := k1; exact DataW.trod_lt m _ _ _ hm
  obtain ⟨a1, rfl⟩ := open_iv (hval 1 23 v1 rfl rfl) h1
  have k2 := h2
  have lt2 : ∀ x ∈ p2, x.block < W.heap.size := by obtain ⟨m, hm⟩ := k2; exact DataW.trod_lt m _ _ _ hm
  obtain ⟨a2, rfl⟩ := open_iv (hval 2 23 v2 rfl rfl) h2
  clear hA0 hval0
  refine (lattice_any a0 a1 a2 W ).mono fun e W' ⟨he, bel⟩ => ?_
  subst he
  exact ⟨_, rfl, _, _, _, [], _, [], hW', trodAll_mk1 (shut_bool Try.underlying4 _), (trodAll_cons_mk (Below.trod laidOut (by kernel_rfl) (of_decide_eq_true (by kernel_rfl)) k0 bel lt0) (trodAll_cons_mk (Below.trod laidOut (by kernel_rfl) (of_decide_eq_true (by kernel_rfl)) k1 bel lt1) (trodAll_cons_mk (Below.trod laidOut (by kernel_rfl) (of_decide_eq_true (by kernel_rfl)) k2 bel lt2) trodAll_mk0))), rfl, bel.frame _, fun h => by cases h⟩

theorem intervalLattice_holds : Rows.IntervalLatticeSaid :=
  OpenClaim.holds_of_wide 9 Try.f9 rfl rfl rfl rfl rfl rfl rfl ⟨rfl, rfl, rfl, rfl, rfl⟩ rfl rfl rfl rfl rfl (by kernel_rfl) Try.func9 (by kernel_rfl)
    (of_decide_eq_true (by kernel_rfl)) (by unfold Func.isWrapper; first | (rw [if_pos (by decide +kernel)]; kernel_rfl) | (rw [if_neg (by decide +kernel)]; exact ⟨rfl, rfl⟩))
    (fun os started H enc _ => intervalLattice_lifted os started H enc)

end Go.Proofs.Ytidaklcinddghaa
