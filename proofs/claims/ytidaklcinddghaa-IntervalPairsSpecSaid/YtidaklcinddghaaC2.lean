/- Proof of IntervalPairsSpec: for all intervals a, b Check, Meet, Hull and Within agree with the reference. No conditions. -/
import Derived.Test.YtidaklcinddghaaB3
import Derived.Test.YtidaklcinddghaaOp
namespace Go.Proofs.Ytidaklcinddghaa
open Go.ChangeShapes Go.WideShapes Go.ChangeAt Go.RowKit Go.Shelf

set_option maxRecDepth 100000 in
set_option maxHeartbeats 4000000 in
theorem pairs_any (a b : Int × Int) (w : World) :
    Calls Try.prog 8 #[ivV a, ivV b] w fun e w' => e = .returned (.bool true) ∧ Below w.heap.size w w' := by
  have hq := guard23
  have heq := eql23
  go_enter Try.func8, Try.ntmps8
  go_wp2_with fail
  refine (sane_any _).mono ?_
  rintro e w1 ⟨rfl, hB1⟩
  have hBa := bAfter (bAl (bAl (Below.refl _ w) _) _) hB1
  have b0 : Blk w1 w.heap.size 23 #[.int .i64 a.1, .int .i64 a.2] := bk hB1 ((Blk.new _ _ _).alloc _)
  have b1 : Blk w1 (w.heap.size + 1) 23 #[.int .i64 b.1, .int .i64 b.2] := bk hB1 (Blk.newAt _ _ _ (by simp))
  clear hB1
  generalize hN : w.heap.size = N at *
  have HN := Lib.hid hN
  clear hN
  obtain ⟨a0, a1⟩ := cells2 b0
  obtain ⟨a2, a3⟩ := cells2 b1
  have l0 := b0.lt
  have l1 := b1.lt
  go_wp2_with fail
  refine (meet_any a b _).mono ?_
  rintro e w2 ⟨rfl, hB2⟩
  obtain ⟨m, hm⟩ : ∃ m, m = meetV a b := ⟨_, rfl⟩
  rw [← hm]
  have Hm := Lib.hid hm
  clear hm
  replace b0 := bk hB2 b0
  replace b1 := bk hB2 b1
  replace hBa := bAft hB2 hBa (Nat.le_of_eq HN.out.symm)
  clear hB2 a0 a1 a2 a3 l0 l1
  obtain ⟨a0, a1⟩ := cells2 b0
  obtain ⟨a2, a3⟩ := cells2 b1
  have l0 := b0.lt
  have l1 := b1.lt
  go_wp2_with fail
  refine (rMeet_any a b _).mono ?_
  rintro e w3 ⟨rfl, hB3⟩
  rw [← Hm.out]
  have c1 := bk hB3 (Blk.new w2 23 #[.int .i64 m.1.1, .int .i64 m.1.2])
  replace b0 := bk hB3 (b0.alloc _)
  replace b1 := bk hB3 (b1.alloc _)
  replace hBa := bAft hB3 (hBa.alloc (Nat.le_of_lt l0) _) (Nat.le_of_eq HN.out.symm)
  generalize hG : w2.heap.size = G1 at *
  clear hG
  clear hB3 a0 a1 a2 a3 l0 l1
  obtain ⟨a0, a1⟩ := cells2 b0
  obtain ⟨a2, a3⟩ := cells2 b1
  have l0 := b0.lt
  have l1 := b1.lt
  go_wp2_with fail
  refine (hull_any a b _).mono ?_
  rintro e w4 ⟨rfl, hB4⟩
  obtain ⟨h, hh⟩ : ∃ h, h = hullV a b := ⟨_, rfl⟩
  rw [← hh]
  have Hh := Lib.hid hh
  clear hh
  have c2 := bk hB4 (Blk.new w3 23 #[.int .i64 m.1.1, .int .i64 m.1.2])
  replace b0 := bk hB4 (b0.alloc _)
  replace b1 := bk hB4 (b1.alloc _)
  replace c1 := bk hB4 (c1.alloc _)
  replace hBa := bAft hB4 (hBa.alloc (Nat.le_of_lt l0) _) (Nat.le_of_eq HN.out.symm)
  generalize hG : w3.heap.size = G2 at *
  clear hG
  clear hB4 a0 a1 a2 a3 l0 l1
  obtain ⟨a0, a1⟩ := cells2 b0
  obtain ⟨a2, a3⟩ := cells2 b1
  have l0 := b0.lt
  have l1 := b1.lt
  go_wp2_with fail
  refine (rHull_any a b _).mono ?_
  rintro e w5 ⟨rfl, hB5⟩
  rw [← Hh.out]
  have c3 := bk hB5 (Blk.new w4 23 #[.int .i64 h.1.1, .int .i64 h.1.2])
  replace b0 := bk hB5 (b0.alloc _)
  replace b1 := bk hB5 (b1.alloc _)
  replace c1 := bk hB5 (c1.alloc _)
  replace c2 := bk hB5 (c2.alloc _)
  replace hBa := bAft hB5 (hBa.alloc (Nat.le_of_lt l0) _) (Nat.le_of_eq HN.out.symm)
  generalize hG : w4.heap.size = G3 at *
  clear hG
  clear hB5 a0 a1 a2 a3 l0 l1
  obtain ⟨a0, a1⟩ := cells2 b0
  obtain ⟨a2, a3⟩ := cells2 b1
  have l0 := b0.lt
  have l1 := b1.lt
  go_wp2_with fail
  have c4 := Blk.new w5 23 #[.int .i64 h.1.1, .int .i64 h.1.2]
  replace hBa := hBa.alloc (Nat.le_of_lt l0) (.cells #[.int .i64 h.1.1, .int .i64 h.1.2] 23)
  replace b0 := b0.alloc (.cells #[.int .i64 h.1.1, .int .i64 h.1.2] 23)
  replace b1 := b1.alloc (.cells #[.int .i64 h.1.1, .int .i64 h.1.2] 23)
  replace c1 := c1.alloc (.cells #[.int .i64 h.1.1, .int .i64 h.1.2] 23)
  replace c2 := c2.alloc (.cells #[.int .i64 h.1.1, .int .i64 h.1.2] 23)
  replace c3 := c3.alloc (.cells #[.int .i64 h.1.1, .int .i64 h.1.2] 23)
  clear a0 a1 a2 a3 l0 l1
  generalize w5.alloc (.cells #[.int .i64 h.1.1, .int .i64 h.1.2] 23) = w6 at *
  generalize w5.heap.size = G4 at *
  have qb00 := later_cell b0 0 rfl
  have qb01 := later_cell b0 1 rfl
  have qb10 := later_cell b1 0 rfl
  have qb11 := later_cell b1 1 rfl
  have qc10 := later_cell c1 0 rfl
  have qc11 := later_cell c1 1 rfl
  have qc20 := later_cell c2 0 rfl
  have qc21 := later_cell c2 1 rfl
  have qc30 := later_cell c3 0 rfl
  have qc31 := later_cell c3 1 rfl
  have qc40 := later_cell c4 0 rfl
  have qc41 := later_cell c4 1 rfl
  refine wp_region_later (by kernel_rfl) (by kernel_rfl) ?_
  repeat (first | go_big_quiet_step ((first | with_reducible exact later_of (check_any a _) | with_reducible exact later_of (rCheck_any a _) | with_reducible exact later_of (within_any a b _) | with_reducible exact later_of (rWithin_any a b _))) | quiet_step ((first | with_reducible exact later_of (check_any a _) | with_reducible exact later_of (rCheck_any a _) | with_reducible exact later_of (within_any a b _) | with_reducible exact later_of (rWithin_any a b _))))
  refine wpQuiet_nil ?_
  rintro _ ⟨s, rfl⟩
  have hB9 := s.below
  generalize s.at = w9 at *
  go_wp2_with fail
  go_ret
  exact ⟨rfl, by rw [HN.out]; exact bAft hB9 hBa (Nat.le_of_eq HN.out.symm)⟩

set_option maxRecDepth 100000 in
theorem intervalPairsSpec_lifted (os : Os) (started : os.Started) (H : Type) (enc : TypeId × Value → H) :
    ReturnsInHanded {} Try.checked os 8 .any (Rows.intervalPairsSpecSpec.pre6 enc Try.prog Try.f8 Rows.intervalPairsSpecRow.domain false) (Rows.intervalPairsSpecSpec.post enc Try.prog Try.f8 false true false false) := by
  refine returnsInHanded_of_change (C := Try.checked) own started (by kernel_rfl) Try.func8
    (ChangeSpec.witness6 (enc := enc) (C := Try.checked) false ⟨#[], #[.agg #[.int .i64 0, .int .i64 0], .agg #[.int .i64 0, .int .i64 0]], []⟩ 8 (by kernel_rfl) (by kernel_rfl) (by kernel_rfl) (by kernel_rfl)) ?_
  intro W base args ds gs before hval0 hW hcnd _
  have hval : ∀ (j : Nat) t v, Try.f8.params[j]? = some t → args[j]? = some v → Value.okWide Try.prog W .any base t v := hval0
  have hW' := hW
  obtain ⟨p, q, hA0, hV, rfl, hfz, hnd⟩ := hW
  have hA : DataW.TrodAll enc Try.prog W 0 (fun _ => true) true Try.f8.params.toList args.toList ds p := hA0
  rw [Try.params8] at hA hval
  obtain ⟨v0, vs0, d0, ds0, p0, q0, hargs, rfl, rfl, h0, r0⟩ := trodAll_cons hA
  obtain ⟨v1, vs1, d1, ds1, p1, q1, rfl, rfl, rfl, h1, r1⟩ := trodAll_cons r0
  obtain ⟨rfl, rfl, rfl⟩ := trodAll_nil r1
  obtain rfl : args = #[v0, v1] := by cases args; simp_all
  obtain ⟨rfl, rfl⟩ := trodVars_none hV
  have k0 := h0
  have lt0 : ∀ x ∈ p0, x.block < W.heap.size := by obtain ⟨m, hm⟩ := k0; exact DataW.trod_lt m _ _ _ hm
  obtain ⟨a0, rfl⟩ := open_iv (hval 0 23 v0 rfl rfl) h0
  have k1 := h1
  have lt1 : ∀ x ∈ p1, x.block < W.heap.size := by obtain ⟨m, hm⟩ := k1; exact DataW.trod_lt m _ _ _ hm
  obtain ⟨a1, rfl⟩ := open_iv (hval 1 23 v1 rfl rfl) h1
  clear hA0 hval0
  refine (pairs_any a0 a1 W ).mono fun e W' ⟨he, bel⟩ => ?_
  subst he
  exact ⟨_, rfl, _, _, _, [], _, [], hW', trodAll_mk1 (shut_bool Try.underlying4 _), (trodAll_cons_mk (Below.trod laidOut (by kernel_rfl) (of_decide_eq_true (by kernel_rfl)) k0 bel lt0) (trodAll_cons_mk (Below.trod laidOut (by kernel_rfl) (of_decide_eq_true (by kernel_rfl)) k1 bel lt1) trodAll_mk0)), rfl, bel.frame _, fun h => by cases h⟩

theorem intervalPairsSpec_holds : Rows.IntervalPairsSpecSaid :=
  OpenClaim.holds_of_wide 8 Try.f8 rfl rfl rfl rfl rfl rfl rfl ⟨rfl, rfl, rfl, rfl, rfl⟩ rfl rfl rfl rfl rfl (by kernel_rfl) Try.func8 (by kernel_rfl)
    (of_decide_eq_true (by kernel_rfl)) (by unfold Func.isWrapper; first | (rw [if_pos (by decide +kernel)]; kernel_rfl) | (rw [if_neg (by decide +kernel)]; exact ⟨rfl, rfl⟩))
    (fun os started H enc _ => intervalPairsSpec_lifted os started H enc)

end Go.Proofs.Ytidaklcinddghaa
