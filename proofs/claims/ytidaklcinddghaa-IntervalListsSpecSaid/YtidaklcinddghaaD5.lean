/- Proof of IntervalListsSpec: for every interval and list Union, Inside and Without agree with the reference. No conditions. -/
import Derived.Test.YtidaklcinddghaaD4
import Derived.Test.YtidaklcinddghaaOp
namespace Go.Proofs.Ytidaklcinddghaa
open Go.ChangeShapes Go.WideShapes Go.ChangeAt Go.RowKit Go.Shelf

theorem same_true (v1 v2 : Value) (l : List (Int × Int)) (w : World) (h1 : SlIv w v1 l) (h2 : SlIv w v2 l) :
    Calls Try.prog 17 #[v1, v2] w fun r w' => r = .returned (.bool true) ∧ Below w.heap.size w w' := by
  have := same_any v1 v2 l l w h1 h2
  rwa [decide_eq_true rfl] at this

set_option maxRecDepth 100000 in
set_option maxHeartbeats 4000000 in
theorem lists_any (i : Int × Int) (v : Value) (l : List (Int × Int)) (w : World) (h : SlIv w v l) :
    Calls Try.prog 3 #[ivV i, v] w fun e w' => e = .returned (.bool true) ∧ Below w.heap.size w w' := by
  obtain ⟨A, c, rfl, hS⟩ := h
  have H : Hid (SlIv w (.slice A l.length c) l) := Lib.hid ⟨A, c, rfl, hS⟩
  have hm : l.length ≤ maxLen := H.out.len_le
  unfold maxLen at hm
  clear hS
  by_cases hl40 : 40 < l.length
  · go_enter Try.func3, Try.ntmps3
    go_wp2_with fail
    refine (sane_any _).mono ?_
    rintro e w1 ⟨rfl, hB1⟩
    go_wp2_with fail
    go_ret
    exact ⟨rfl, bAfter (bAl (Below.refl _ w) _) hB1⟩
  · have hd40 : decide ((40 : Int) < (l.length : Int)) = false := by simp; omega
    have hl40' : l.length ≤ 40 := by omega
    obtain ⟨k1, hk1⟩ : ∃ k, chkAll l = k := ⟨_, rfl⟩
    have HK1 := Lib.hid hk1
    obtain ⟨k2, hk2⟩ : ∃ k, bothE i l = k := ⟨_, rfl⟩
    have HK2 := Lib.hid hk2
    obtain ⟨r, hr⟩ : ∃ r, insideR i l = r := ⟨_, rfl⟩
    have HR := Lib.hid hr
    clear hk1 hk2 hr
    have t1 : (k1 == k1) = true := by simp
    have t2 : (k2 == k2) = true := by simp
    have t3 : (r == r) = true := by simp
    go_enter Try.func3, Try.ntmps3
    go_wp2_with fail
    refine (sane_any _).mono ?_
    rintro e w1 ⟨rfl, hB1⟩
    have b0 : Blk w1 w.heap.size 23 #[.int .i64 i.1, .int .i64 i.2] := (Blk.new w _ _).below hB1
    have H1 := Lib.hid (slUp hB1 (slAl H.out _))
    have hBa := bAfter (bAl (Below.refl _ w) _) hB1
    clear hB1 H
    go_wp2_with fail
    refine (Union_c _ l _ H1.out (by omega)).mono ?_
    rintro e w2 ⟨v2, rfl, hr2, hB2⟩
    rw [HK1.out]
    replace b0 := bk hB2 b0
    have H2 := Lib.hid (slUp hB2 H1.out)
    have X2 := Lib.hid (own_sl hr2 (Nat.le_refl _))
    replace hBa := bAfter hBa hB2
    clear hB2 H1 hr2
    go_wp2_with fail
    refine (rUnion_any _ l _ H2.out (by omega)).mono ?_
    rintro e w3 ⟨v3, rfl, hr3, hB3⟩
    rw [HK1.out]
    replace b0 := bk hB3 b0
    have H3 := Lib.hid (slUp hB3 H2.out)
    have X3 := Lib.hid (slUp hB3 X2.out)
    have Y3 := Lib.hid (own_sl hr3 (Nat.le_refl _))
    replace hBa := bAfter hBa hB3
    clear hB3 H2 hr3 X2
    obtain ⟨a0, a1⟩ := cells2 b0
    go_wp2_with fail
    refine (Inside_c i _ l _ H3.out (by omega)).mono ?_
    rintro e w4 ⟨rfl, hB4⟩
    rw [HK2.out, HR.out]
    replace b0 := bk hB4 b0
    have H4 := Lib.hid (slUp hB4 H3.out)
    have X4 := Lib.hid (slUp hB4 X3.out)
    have Y4 := Lib.hid (slUp hB4 Y3.out)
    replace hBa := bAfter hBa hB4
    clear hB4 H3 X3 Y3 a0 a1
    obtain ⟨a0, a1⟩ := cells2 b0
    go_wp2_with fail
    refine (rInside_any i _ l _ H4.out (by omega)).mono ?_
    rintro e w5 ⟨rfl, hB5⟩
    rw [HK2.out, HR.out]
    replace b0 := bk hB5 b0
    have H5 := Lib.hid (slUp hB5 H4.out)
    have X5 := Lib.hid (slUp hB5 X4.out)
    have Y5 := Lib.hid (slUp hB5 Y4.out)
    replace hBa := bAfter hBa hB5
    clear hB5 H4 X4 Y4 a0 a1
    obtain ⟨a0, a1⟩ := cells2 b0
    go_wp2_with fail
    refine (Without_c i _ l _ H5.out (by omega)).mono ?_
    rintro e w6 ⟨v6, rfl, hr6, hB6⟩
    rw [HK2.out]
    replace b0 := bk hB6 b0
    have H6 := Lib.hid (slUp hB6 H5.out)
    have X6 := Lib.hid (slUp hB6 X5.out)
    have Y6 := Lib.hid (slUp hB6 Y5.out)
    have P6 := Lib.hid (own_sl hr6 (Nat.le_refl _))
    replace hBa := bAfter hBa hB6
    clear hB6 H5 X5 Y5 a0 a1 hr6
    obtain ⟨a0, a1⟩ := cells2 b0
    go_wp2_with fail
    refine (rWithout_any i _ l _ H6.out (by omega)).mono ?_
    rintro e w7 ⟨v7, rfl, hr7, hB7⟩
    rw [HK2.out]
    have X7 := Lib.hid (slUp hB7 X6.out)
    have Y7 := Lib.hid (slUp hB7 Y6.out)
    have P7 := Lib.hid (slUp hB7 P6.out)
    have Q7 := Lib.hid (own_sl hr7 (Nat.le_refl _))
    replace hBa := bAfter hBa hB7
    clear hB7 H6 X6 Y6 P6 a0 a1 hr7 b0
    go_wp2_with fail
    refine (same_true _ _ _ _ X7.out Y7.out).mono ?_
    rintro e w8 ⟨rfl, hB8⟩
    have P8 := Lib.hid (slUp hB8 P7.out)
    have Q8 := Lib.hid (slUp hB8 Q7.out)
    replace hBa := bAfter hBa hB8
    clear hB8 P7 Q7 X7 Y7
    go_wp2_with fail
    refine (same_true _ _ _ _ P8.out Q8.out).mono ?_
    rintro e w9 ⟨rfl, hB9⟩
    replace hBa := bAfter hBa hB9
    go_wp2_with fail
    go_ret
    exact ⟨rfl, hBa⟩

set_option maxRecDepth 100000 in
theorem intervalListsSpec_lifted (os : Os) (started : os.Started) (H : Type) (enc : TypeId × Value → H) :
    ReturnsInHanded {} Try.checked os 3 .any (Rows.intervalListsSpecSpec.pre6 enc Try.prog Try.f3 Rows.intervalListsSpecRow.domain false) (Rows.intervalListsSpecSpec.post enc Try.prog Try.f3 false true false false) := by
  refine returnsInHanded_of_change (C := Try.checked) own started (by kernel_rfl) Try.func3
    (ChangeSpec.witness6 (enc := enc) (C := Try.checked) false ⟨#[], #[.agg #[.int .i64 0, .int .i64 0], .slice none 0 0], []⟩ 8 (by kernel_rfl) (by kernel_rfl) (by kernel_rfl) (by kernel_rfl)) ?_
  intro W base args ds gs before hval0 hW hcnd _
  have hval : ∀ (j : Nat) t v, Try.f3.params[j]? = some t → args[j]? = some v → Value.okWide Try.prog W .any base t v := hval0
  have hW' := hW
  obtain ⟨p, q, hA0, hV, rfl, hfz, hnd⟩ := hW
  have hA : DataW.TrodAll enc Try.prog W 0 (fun _ => true) true Try.f3.params.toList args.toList ds p := hA0
  rw [Try.params3] at hA hval
  obtain ⟨v0, vs0, d0, ds0, p0, q0, hargs, rfl, rfl, h0, r0⟩ := trodAll_cons hA
  obtain ⟨v1, vs1, d1, ds1, p1, q1, rfl, rfl, rfl, h1, r1⟩ := trodAll_cons r0
  obtain ⟨rfl, rfl, rfl⟩ := trodAll_nil r1
  obtain rfl : args = #[v0, v1] := by cases args; simp_all
  obtain ⟨rfl, rfl⟩ := trodVars_none hV
  have k0 := h0
  have lt0 : ∀ x ∈ p0, x.block < W.heap.size := by obtain ⟨m, hm⟩ := k0; exact DataW.trod_lt m _ _ _ hm
  obtain ⟨a0, rfl⟩ := open_iv (hval 0 23 v0 rfl rfl) h0
  have k1 := h1
  have lt1 : ∀ x ∈ p1, x.block < W.heap.size := by obtain ⟨m, hm⟩ := k1; exact DataW.trod_lt m _ _ _ hm
  obtain ⟨a1, s1⟩ := open_ivs (hval 1 24 v1 rfl rfl) h1
  clear hA0 hval0
  refine (lists_any a0 v1 a1 W s1).mono fun e W' ⟨he, bel⟩ => ?_
  subst he
  exact ⟨_, rfl, _, _, _, [], _, [], hW', trodAll_mk1 (shut_bool Try.underlying4 _), (trodAll_cons_mk (Below.trod laidOut (by kernel_rfl) (of_decide_eq_true (by kernel_rfl)) k0 bel lt0) (trodAll_cons_mk (Below.trod laidOut (by kernel_rfl) (of_decide_eq_true (by kernel_rfl)) k1 bel lt1) trodAll_mk0)), rfl, bel.frame _, fun h => by cases h⟩

theorem intervalListsSpec_holds : Rows.IntervalListsSpecSaid :=
  OpenClaim.holds_of_wide 3 Try.f3 rfl rfl rfl rfl rfl rfl rfl ⟨rfl, rfl, rfl, rfl, rfl⟩ rfl rfl rfl rfl rfl (by kernel_rfl) Try.func3 (by kernel_rfl)
    (of_decide_eq_true (by kernel_rfl)) (by unfold Func.isWrapper; first | (rw [if_pos (by decide +kernel)]; kernel_rfl) | (rw [if_neg (by decide +kernel)]; exact ⟨rfl, rfl⟩))
    (fun os started H enc _ => intervalListsSpec_lifted os started H enc)
end Go.Proofs.Ytidaklcinddghaa
