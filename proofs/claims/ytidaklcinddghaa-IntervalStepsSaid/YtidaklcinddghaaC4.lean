/- Proof of IntervalInside: for every interval and list the law returns true. No conditions. -/
import Derived.Test.YtidaklcinddghaaC0
import Derived.Test.YtidaklcinddghaaPo
import Derived.Test.YtidaklcinddghaaAp
import Derived.Test.YtidaklcinddghaaOp
import Derived.Deep.RegionHeld3
namespace Go.Proofs.Ytidaklcinddghaa
open Go.ChangeShapes Go.WideShapes Go.ChangeAt Go.RowKit Go.Shelf

theorem slDr {w : World} {v : Value} {l : List (Int × Int)} (h : SlIv w v l) : SlIv w.drew v l := h

theorem any_take_succ {l : List (Int × Int)} {j : Nat} {x : Int × Int} (hx : l[j]? = some x) (f : Int × Int → Bool) : (l.take (j + 1)).any f = ((l.take j).any f || f x) := by
  rw [List.take_add_one, hx]; simp

set_option maxRecDepth 100000 in
set_option maxHeartbeats 4000000 in
theorem insideLaw_any (i : Int × Int) (v : Value) (l : List (Int × Int)) (w : World) (h : SlIv w v l) :
    Calls Try.prog 6 #[ivV i, v] w fun e w' => e = .returned (.bool true) ∧ Below w.heap.size w w' := by
  obtain ⟨A, c, rfl, hS⟩ := h
  have H : Hid (SlIv w (.slice A l.length c) l) := Lib.hid ⟨A, c, rfl, hS⟩
  have hm : l.length ≤ maxLen := H.out.len_le
  unfold maxLen at hm
  clear hS
  by_cases hl60 : 60 < l.length
  · go_enter Try.func6, Try.ntmps6
    go_wp2_with fail
    refine (sane_any _).mono ?_
    rintro e w1 ⟨rfl, hB1⟩
    go_wp2_with fail
    go_ret
    exact ⟨rfl, bAfter (bAl (Below.refl _ w) _) hB1⟩
  · have hd60 : decide ((60 : Int) < (l.length : Int)) = false := by simp; omega
    have hl60' : l.length ≤ 60 := by omega
    obtain ⟨k, hk⟩ : ∃ k, bothE i l = k := ⟨_, rfl⟩
    have HK := Lib.hid hk
    by_cases hk0 : k = 0
    · subst hk0
      clear hk
      obtain ⟨hki, hkl⟩ := bothE_zero HK.out
      have hoi := ok_of_chk hki
      have hol := ok_of_chkAll hkl
      have e1 : insideR i l = (unionC l).any (withinB i) := if_pos HK.out
      have e2 : withoutR i l = woL i.2 i.1 (unionC l) := if_pos HK.out
      have e3 : unionR l = unionC l := if_pos hkl
      have HKL := Lib.hid hkl
      have HE := Lib.hid (without_empty hoi hol)
      have HI := Lib.hid (inside_both hoi hol)
      have hxl : (woL i.2 i.1 (unionC l)).length ≤ 61 := Nat.le_trans (woL_len _ _ _) (by have := unionC_len l; omega)
      have hul : (unionC l).length ≤ 60 := by have := unionC_len l; omega
      generalize hx : woL i.2 i.1 (unionC l) = x at *
      generalize hu : unionC l = u at *
      generalize hr : u.any (withinB i) = r at *
      have HRR := Lib.hid hr
      have HE1 := Lib.hid e1
      have HE2 := Lib.hid e2
      have HE3 := Lib.hid e3
      clear hx hu hr e1 e2 e3 hki hkl hoi hol
      go_enter Try.func6, Try.ntmps6
      go_wp2_with fail
      refine (sane_any _).mono ?_
      rintro e w1 ⟨rfl, hB1⟩
      have b0 : Blk w1 w.heap.size 23 #[.int .i64 i.1, .int .i64 i.2] := (Blk.new w _ _).below hB1
      have H1 := Lib.hid (slUp hB1 (slAl H.out _))
      have hBa := bAfter (bAl (Below.refl _ w) _) hB1
      clear hB1 H
      obtain ⟨a0, a1⟩ := cells2 b0
      go_wp2_with fail
      refine (Inside_c i _ l _ H1.out (by omega)).mono ?_
      rintro e w2 ⟨rfl, hB2⟩
      rw [HK.out, HE1.out]
      replace b0 := bk hB2 b0
      have H2 := Lib.hid (slUp hB2 H1.out)
      replace hBa := bAfter hBa hB2
      clear hB2 H1 a0 a1
      obtain ⟨a0, a1⟩ := cells2 b0
      go_wp2_with fail
      refine (Without_c i _ l _ H2.out (by omega)).mono ?_
      rintro e w3 ⟨v3, rfl, hr3, hB3⟩
      rw [HE2.out] at hr3
      rw [HK.out]
      replace b0 := bk hB3 b0
      have H3 := Lib.hid (slUp hB3 H2.out)
      have X3 := Lib.hid (own_sl hr3 (Nat.le_refl _))
      replace hBa := bAfter hBa hB3
      clear hB3 H2 a0 a1 hr3
      go_wp2_with fail
      refine (Union_c _ l _ H3.out (by omega)).mono ?_
      rintro e w4 ⟨v4, rfl, hr4, hB4⟩
      rw [HE3.out] at hr4
      rw [HKL.out]
      replace b0 := bk hB4 b0
      have H4 := Lib.hid (slUp hB4 H3.out)
      have X4 := Lib.hid (slUp hB4 X3.out)
      have U4 := Lib.hid (own_sl hr4 (Nat.le_refl _))
      replace hBa := bAfter hBa hB4
      clear hB4 H3 X3 hr4
      obtain ⟨Au, cu, rfl, hcu, hmu, hAu⟩ := U4.out
      have HU := Lib.hid hAu
      clear hAu hcu hmu U4
      go_wp2_with fail
      go_loopw [11, 12] (fun o q wr => ∃ j : Nat, j ≤ u.length ∧ q = .int .i64 j ∧ o = .bool ((u.take j).any (withinB i)) ∧ Below w4.heap.size w4 wr) (fun _ q _ => u.length - (intOf q).toNat)
      case atStart => exact ⟨0, Nat.zero_le _, rfl, rfl, Below.refl _ _⟩
      case round =>
        obtain ⟨j, hj, rfl, rfl, hB⟩ := hrel
        by_cases hlt : j < u.length
        · obtain ⟨b, off, rfl, hb, hcell⟩ := HU.out (by omega)
          obtain ⟨y, hy⟩ : ∃ y, u[j]? = some y := ⟨u[j], by simp [hlt]⟩
          have c0 : wr.cell? ⟨b, off + j * 2, none⟩ = some (.int .i64 y.1) := (hB.cell hb).trans (hcell _ y hy 0 _ rfl)
          have c1 : wr.cell? ⟨b, off + j * 2 + 1, none⟩ = some (.int .i64 y.2) := (hB.cell hb).trans (hcell _ y hy 1 _ rfl)
          have HT := Lib.hid (any_take_succ hy (withinB i))
          have r0 := later_old c0
          have r1 := later_old c1
          have b0' := bk hB b0
          have r2 := later_cell b0' 0 rfl
          have r3 := later_cell b0' 1 rfl
          clear c0 c1 hcell hy b0'
          have g1 : (0 : Int) ≤ (j : Int) := by omega
          have g2 : (j : Int) < (u.length : Int) := by omega
          cases hq : (u.take j).any (withinB i) with
          | true =>
            rw [hq, Bool.true_or] at HT
            go_wp2_with fail
            refine wp_region_later (by kernel_rfl) (by kernel_rfl) ?_
            repeat (first | go_big_quiet_step (fail) | quiet_step (fail))
            refine wpQuiet_nil ?_
            rintro _ ⟨s, rfl⟩
            have hB8 := s.below
            generalize s.at = w8 at *
            go_wp2_with fail
            go_roundw
            case rel => exact ⟨j + 1, by omega, by go_num, by rw [HT.out], bAft hB8 hB (Nat.le_refl _)⟩
            case measure => simp [intOf]; omega
          | false =>
            rw [hq, Bool.false_or] at HT
            generalize hz : withinB i y = z at *
            go_wp2_with fail
            refine wp_region_later (by kernel_rfl) (by kernel_rfl) ?_
            repeat (first | go_big_quiet_step ((with_reducible exact later_of (within_eq _ _ _ hz))) | quiet_step ((with_reducible exact later_of (within_eq _ _ _ hz))))
            refine wpQuiet_nil ?_
            rintro _ ⟨s, rfl⟩
            have hB8 := s.below
            generalize s.at = w8 at *
            go_wp2_with fail
            go_roundw
            case rel => exact ⟨j + 1, by omega, by go_num, by rw [HT.out], bAft hB8 hB (Nat.le_refl _)⟩
            case measure => simp [intOf]; omega
        · obtain rfl : j = u.length := by omega
          rw [List.take_of_length_le (Nat.le_refl _), HRR.out]
          have H5 := Lib.hid (slUp hB H4.out)
          have X5 := Lib.hid (slUp hB X4.out)
          replace b0 := bk hB b0
          replace hBa := bAfter hBa hB
          clear H4 X4 hB HU
          obtain ⟨Ax, cx, rfl, hxx⟩ := X5.out
          clear hxx
          have hx1 : ((x.length : Int) == 0) = r := by
            cases r with
            | true => have := HE.out.2 rfl; rw [beq_iff_eq]; omega
            | false => exact beq_eq_false_iff_ne.2 (fun h => by have := HE.out.1 (by omega); cases this)
          go_wp2_with fail
          have hn : w.heap.size ≤ w.heap.size := Nat.le_refl _
          generalize hN : w.heap.size = n at *
          have HN := Lib.hid hN
          clear hN
          obtain ⟨i0, hi, hz0, hz1, hz2⟩ := info_parts info23
          go_region_held3 (fun W => W.cell? ⟨n, 0, none⟩ = some (.int .i64 i.1) ∧ W.cell? ⟨n, 1, none⟩ = some (.int .i64 i.2))
            (first | exact ⟨b0.cell 0, b0.cell 1⟩ | exact ⟨(b0.alloc _).cell 0, (b0.alloc _).cell 1⟩)
            (first
             | (go_at_call 13; refine (Inside_c i _ (l ++ x) _ SB.out (by rw [List.length_append]; omega)).mono ?_; rintro e w7 ⟨rfl, hB7⟩; rw [HI.out.1, HI.out.2]; replace b0 := bk hB7 b0)
             | (refine step_append_sl _ encIv rfl (.tmp 86) (.tmp 87) 24 rfl wr.heap.size 23 i0 (.agg #[.int .i64 0, .int .i64 0]) 2 16 Try.underlying24 hi hz0 hz1 hz2 rfl (by decide) _ 0 [] rfl (World.ownsRow_made wr #[] 0 (Nat.le_refl _) (by simp [maxLen]) rfl).drew _ _ l (fun _ => rfl) rfl (slDr (slAl H5.out _)) encIv_one (by simp only [maxLen]; omega) (by omega) (by simp) ?_;
                intro v5 w5 hown5 hgrow5 _;
                have hB5 : Below wr.heap.size wr w5 := (bAl (Below.refl _ wr) _).drew.grown hgrow5 (by simp) (fun k e => Nat.le_of_eq (Option.some.inj e));
                have HO := Lib.hid hown5;
                have HB0 := Lib.hid b0; replace b0 := bk hB5 b0;
                have X6 := Lib.hid (slUp hB5 X5.out);
                clear hgrow5 hown5)
             | (refine step_append_sl _ encIv rfl (.tmp 88) (.tmp 89) 24 rfl wr.heap.size 23 i0 (.agg #[.int .i64 0, .int .i64 0]) 2 16 Try.underlying24 hi hz0 hz1 hz2 rfl (by decide) _ _ _ rfl HO.out _ _ x (fun _ => rfl) rfl X6.out encIv_one ?c1 ?c2 hB5.size ?_; (case c1 => (simp only [maxLen]; omega)); (case c2 => omega);
                intro v6 w6 hown6 hgrow6 _;
                have hB6 : Below wr.heap.size wr w6 := hB5.grown hgrow6 hB5.size (fun k e => (HO.out.lt k e).1);
                have hown7 : w6.ownsRow wr.heap.size 23 2 v6 (l ++ x).length ((l ++ x).flatMap encIv) := by (rw [List.flatMap_append, List.length_append]; simpa using hown6);
                have SB := Lib.hid (own_sl hown7 (Nat.le_refl _));
                have HA := Lib.hid (bAft hB6 hBa (Nat.le_of_eq HN.out.symm)); replace b0 := (HB0.out.below hB6);
                clear hgrow6 hown6 hown7)
             )
          go_wp2_with fail
          go_ret
          exact ⟨rfl, by rw [HN.out]; exact bAft hB7 HA.out (Nat.le_of_eq HN.out.symm)⟩
    · have hk1 := neq_int_true hk0
      have e1 : insideR i l = false := if_neg (by rw [HK.out]; exact hk0)
      have e2 : withoutR i l = [] := if_neg (by rw [HK.out]; exact hk0)
      have hk2 : (k == k) = true := by simp
      clear hk
      go_enter Try.func6, Try.ntmps6
      go_wp2_with fail
      refine (sane_any _).mono ?_
      rintro e w1 ⟨rfl, hB1⟩
      have b0 : Blk w1 w.heap.size 23 #[.int .i64 i.1, .int .i64 i.2] := (Blk.new w _ _).below hB1
      have H1 := Lib.hid (slUp hB1 (slAl H.out _))
      have hBa := bAfter (bAl (Below.refl _ w) _) hB1
      clear hB1 H
      obtain ⟨a0, a1⟩ := cells2 b0
      go_wp2_with fail
      refine (Inside_c i _ l _ H1.out (by omega)).mono ?_
      rintro e w2 ⟨rfl, hB2⟩
      rw [HK.out, e1]
      replace b0 := bk hB2 b0
      have H2 := Lib.hid (slUp hB2 H1.out)
      replace hBa := bAfter hBa hB2
      clear hB2 H1 a0 a1
      obtain ⟨a0, a1⟩ := cells2 b0
      go_wp2_with fail
      refine (Without_c i _ l _ H2.out (by omega)).mono ?_
      rintro e w3 ⟨v3, rfl, hr3, hB3⟩
      rw [e2] at hr3
      rw [HK.out]
      obtain ⟨A3, c3, rfl⟩ : ∃ A3 c3, v3 = .slice A3 0 c3 := by
        rcases hr3.2 with ⟨rfl, _⟩ | ⟨_, _, _, rfl, _⟩ <;> exact ⟨_, _, rfl⟩
      have H3 := Lib.hid (slUp hB3 H2.out)
      replace hBa := bAfter hBa hB3
      clear hB3 H2 a0 a1 hr3
      go_wp2_with fail
      refine (Union_c _ l _ H3.out (by omega)).mono ?_
      rintro e w4 ⟨v4, rfl, hr4, hB4⟩
      replace hBa := bAfter hBa hB4
      clear hr4 hB4
      go_wp2_with fail
      go_ret
      exact ⟨rfl, hBa⟩
set_option maxRecDepth 100000 in
theorem intervalInside_lifted (os : Os) (started : os.Started) (H : Type) (enc : TypeId × Value → H) :
    ReturnsInHanded {} Try.checked os 6 .any (Rows.intervalInsideSpec.pre6 enc Try.prog Try.f6 Rows.intervalInsideRow.domain false) (Rows.intervalInsideSpec.post enc Try.prog Try.f6 false true false false) := by
  refine returnsInHanded_of_change (C := Try.checked) own started (by kernel_rfl) Try.func6
    (ChangeSpec.witness6 (enc := enc) (C := Try.checked) false ⟨#[], #[.agg #[.int .i64 0, .int .i64 0], .slice none 0 0], []⟩ 8 (by kernel_rfl) (by kernel_rfl) (by kernel_rfl) (by kernel_rfl)) ?_
  intro W base args ds gs before hval0 hW hcnd _
  have hval : ∀ (j : Nat) t v, Try.f6.params[j]? = some t → args[j]? = some v → Value.okWide Try.prog W .any base t v := hval0
  have hW' := hW
  obtain ⟨p, q, hA0, hV, rfl, hfz, hnd⟩ := hW
  have hA : DataW.TrodAll enc Try.prog W 0 (fun _ => true) true Try.f6.params.toList args.toList ds p := hA0
  rw [Try.params6] at hA hval
  obtain ⟨v0, vs0, d0, ds0, p0, q0, hargs, rfl, rfl, h0, r0⟩ := trodAll_cons hA
  obtain ⟨v1, vs1, d1, ds1, p1, q1, rfl, rfl, rfl, h1, r1⟩ := trodAll_cons r0
  obtain ⟨rfl, rfl, rfl⟩ := trodAll_nil r1
  obtain rfl : args = #[v0, v1] := by cases args; simp_all
  obtain ⟨rfl, rfl⟩ := trodVars_none hV
  have k0 := h0
  have lt0 : ∀ x ∈ p0, x.block < W.heap.size := by obtain ⟨m, hm⟩ := k0; exact DataW.trod_lt m _ _ _ hm
  obtain ⟨a0, rfl⟩ := open_iv (hval 0 23 v0 rfl rfl) h0
  have k1 := h1
  have lt1 : ∀ x ∈ p1, x.block < W.heap.size := by obtain ⟨m, hm⟩ := k1; exact DataW.trod_lt m _ _ _ hm
  obtain ⟨a1, s1⟩ := open_ivs (hval 1 24 v1 rfl rfl) h1
  clear hA0 hval0
  refine (insideLaw_any a0 v1 a1 W s1).mono fun e W' ⟨he, bel⟩ => ?_
  subst he
  exact ⟨_, rfl, _, _, _, [], _, [], hW', trodAll_mk1 (shut_bool Try.underlying4 _), (trodAll_cons_mk (Below.trod laidOut (by kernel_rfl) (of_decide_eq_true (by kernel_rfl)) k0 bel lt0) (trodAll_cons_mk (Below.trod laidOut (by kernel_rfl) (of_decide_eq_true (by kernel_rfl)) k1 bel lt1) trodAll_mk0)), rfl, bel.frame _, fun h => by cases h⟩

theorem intervalInside_holds : Rows.IntervalInsideSaid :=
  OpenClaim.holds_of_wide 6 Try.f6 rfl rfl rfl rfl rfl rfl rfl ⟨rfl, rfl, rfl, rfl, rfl⟩ rfl rfl rfl rfl rfl (by kernel_rfl) Try.func6 (by kernel_rfl)
    (of_decide_eq_true (by kernel_rfl)) (by unfold Func.isWrapper; first | (rw [if_pos (by decide +kernel)]; kernel_rfl) | (rw [if_neg (by decide +kernel)]; exact ⟨rfl, rfl⟩))
    (fun os started H enc _ => intervalInside_lifted os started H enc)

end Go.Proofs.Ytidaklcinddghaa
