/- Proof of IntervalSteps: for every interval and two lists the law returns true. No conditions. -/
import Derived.Test.YtidaklcinddghaaC4
import Derived.Test.YtidaklcinddghaaPq
namespace Go.Proofs.Ytidaklcinddghaa
open Go.ChangeShapes Go.WideShapes Go.ChangeAt Go.RowKit Go.Shelf

theorem own_below {w w' : World} {base : Nat} {e : TypeId} {size : Nat} {v : Value} {n : Nat} {xs : List Value} (hb : Below w.heap.size w w') (h : w.ownsRow base e size v n xs) : w'.ownsRow base e size v n xs :=
  h.kept (row := none) ⟨hb.os, hb.tape, hb.output, hb.size, fun k hk _ => hb.block k hk⟩ (by cases hv : v.ownBlock <;> simp)
theorem own_len {w : World} {base : Nat} {v : Value} {n : Nat} {xs : List Value} (h : w.ownsRow base 23 2 v n xs) : ∃ A c, v = .slice A n c := by
  rcases h.2 with ⟨rfl, rfl⟩ | ⟨_, _, _, rfl, _⟩ <;> exact ⟨_, _, rfl⟩

set_option maxRecDepth 100000 in
set_option maxHeartbeats 4000000 in
theorem stepsLaw_any (i : Int × Int) (v : Value) (l : List (Int × Int)) (v' : Value) (m : List (Int × Int)) (w : World) (h : SlIv w v l) (h' : SlIv w v' m) :
    Calls Try.prog 7 #[ivV i, v, v'] w fun e w' => e = .returned (.bool true) ∧ Below w.heap.size w w' := by
  obtain ⟨A, c, rfl, hS⟩ := h
  obtain ⟨A', c', rfl, hS'⟩ := h'
  have H : Hid (SlIv w (.slice A l.length c) l) := Lib.hid ⟨A, c, rfl, hS⟩
  have H' : Hid (SlIv w (.slice A' m.length c') m) := Lib.hid ⟨A', c', rfl, hS'⟩
  have hm : l.length ≤ maxLen := H.out.len_le
  have hm' : m.length ≤ maxLen := H'.out.len_le
  unfold maxLen at hm hm'
  clear hS hS'
  by_cases hl30 : 30 < l.length
  · have hd : decide ((30 : Int) < (l.length : Int)) = true := by simp; omega
    go_enter Try.func7, Try.ntmps7
    go_wp2_with fail
    refine (sane_any _).mono ?_
    rintro e w1 ⟨rfl, hB1⟩
    go_wp2_with fail
    go_ret
    exact ⟨rfl, bAfter (bAl (Below.refl _ w) _) hB1⟩
  · have hd30 : decide ((30 : Int) < (l.length : Int)) = false := by simp; omega
    by_cases hm30 : 30 < m.length
    · have hd : decide ((30 : Int) < (m.length : Int)) = true := by simp; omega
      go_enter Try.func7, Try.ntmps7
      go_wp2_with fail
      refine (sane_any _).mono ?_
      rintro e w1 ⟨rfl, hB1⟩
      go_wp2_with fail
      go_ret
      exact ⟨rfl, bAfter (bAl (Below.refl _ w) _) hB1⟩
    · have hd30' : decide ((30 : Int) < (m.length : Int)) = false := by simp; omega
      have hl30' : l.length ≤ 30 := by omega
      have hm30' : m.length ≤ 30 := by omega
      obtain ⟨k, hk⟩ : ∃ k, bothE i (l ++ m) = k := ⟨_, rfl⟩
      have HK := Lib.hid hk
      clear hk
      obtain ⟨R, hR⟩ : ∃ R, withoutR i (l ++ m) = R := ⟨_, rfl⟩
      have HR := Lib.hid hR
      clear hR
      go_enter Try.func7, Try.ntmps7
      go_wp2_with fail
      refine (sane_any _).mono ?_
      rintro e w1 ⟨rfl, hB1⟩
      have b0 : Blk w1 w.heap.size 23 #[.int .i64 i.1, .int .i64 i.2] := (Blk.new w _ _).below hB1
      have H1 := Lib.hid (slUp hB1 (slAl H.out _))
      have H1' := Lib.hid (slUp hB1 (slAl H'.out _))
      have hBa := bAfter (bAl (Below.refl _ w) _) hB1
      clear hB1 H H'
      go_wp2_with fail
      have hn : w.heap.size ≤ w.heap.size := Nat.le_refl _
      generalize hN : w.heap.size = n at *
      have HN := Lib.hid hN
      clear hN
      obtain ⟨i0, hi, hz0, hz1, hz2⟩ := info_parts info23
      go_region_held3 (fun W => W.cell? ⟨n, 0, none⟩ = some (.int .i64 i.1) ∧ W.cell? ⟨n, 1, none⟩ = some (.int .i64 i.2))
        (first | exact ⟨b0.cell 0, b0.cell 1⟩ | exact ⟨(b0.alloc _).cell 0, (b0.alloc _).cell 1⟩)
        (first
         | (go_at_call 15; refine (Without_c i _ (l ++ m) _ SB.out (by rw [List.length_append]; omega)).mono ?_; rintro e w4 ⟨v4, rfl, hr4, hB4⟩; rw [HK.out]; rw [HR.out] at hr4; replace b0 := bk hB4 b0; have HR4 := Lib.hid hr4; clear hr4)
         | (refine step_append_sl _ encIv rfl (.tmp 27) (.tmp 28) 24 rfl w1.heap.size 23 i0 (.agg #[.int .i64 0, .int .i64 0]) 2 16 Try.underlying24 hi hz0 hz1 hz2 rfl (by decide) _ 0 [] rfl (World.ownsRow_made w1 #[] 0 (Nat.le_refl _) (by simp [maxLen]) rfl).drew _ _ l (fun _ => rfl) rfl (slDr (slAl H1.out _)) encIv_one (by simp only [maxLen]; omega) (by omega) (by simp) ?_;
            intro v2 w2 hown2 hgrow2 _;
            have hB2 : Below w1.heap.size w1 w2 := (bAl (Below.refl _ w1) _).drew.grown hgrow2 (by simp) (fun k e => Nat.le_of_eq (Option.some.inj e));
            have HO := Lib.hid hown2;
            have HB0 := Lib.hid b0; replace b0 := bk hB2 b0;
            have X2 := Lib.hid (slUp hB2 H1'.out);
            clear hgrow2 hown2)
         | (refine step_append_sl _ encIv rfl (.tmp 29) (.tmp 30) 24 rfl w1.heap.size 23 i0 (.agg #[.int .i64 0, .int .i64 0]) 2 16 Try.underlying24 hi hz0 hz1 hz2 rfl (by decide) _ _ _ rfl HO.out _ _ m (fun _ => rfl) rfl X2.out encIv_one ?c1 ?c2 hB2.size ?_; (case c1 => (simp only [maxLen]; omega)); (case c2 => omega);
            intro v3 w3 hown3 hgrow3 _;
            have hB3 : Below w1.heap.size w1 w3 := hB2.grown hgrow3 hB2.size (fun k e => (HO.out.lt k e).1);
            have hown7 : w3.ownsRow w1.heap.size 23 2 v3 (l ++ m).length ((l ++ m).flatMap encIv) := by (rw [List.flatMap_append, List.length_append]; simpa using hown3);
            have SB := Lib.hid (own_sl hown7 (Nat.le_refl _));
            replace b0 := (HB0.out.below hB3);
            clear hgrow3 hown3 hown7))
      have H4 := Lib.hid (slUp hB4 (slUp hB3 H1.out))
      have H4' := Lib.hid (slUp hB4 (slUp hB3 H1'.out))
      replace hBa := bAft hB4 (bAft hB3 hBa (Nat.le_of_eq HN.out.symm)) (Nat.le_of_eq HN.out.symm)
      obtain ⟨A4, c4, rfl⟩ := own_len HR4.out
      have S4 := Lib.hid (own_sl HR4.out (Nat.le_refl _))
      clear hB4 hB3 hB2 H1 H1' X2 HO HB0 SB HR4
      by_cases hk0 : k = 0
      · subst hk0
        obtain ⟨hkl, hkm⟩ := bothE_append_zero HK.out
        have hoi := ok_of_chk (bothE_zero hkl).1
        have hol := ok_of_chkAll (bothE_zero hkl).2
        have hom := ok_of_chkAll hkm
        have e2 : withoutR i l = woL i.2 i.1 (unionC l) := if_pos hkl
        have e3 : withoutR i (l ++ m) = woL i.2 i.1 (unionC (l ++ m)) := if_pos HK.out
        have hst := steps_eq (i := i) hol hom
        rw [← e3, HR.out] at hst
        have hbo := without_ok hoi hol
        have hbl : (woL i.2 i.1 (unionC l)).length ≤ 31 := Nat.le_trans (woL_len _ _ _) (by have := unionC_len l; omega)
        have hum : (unionC m).length ≤ 30 := by have := unionC_len m; omega
        obtain ⟨F, hF⟩ : ∃ F : Int × Int → List (Int × Int), F = fun x => woL x.2 x.1 (unionC m) := ⟨_, rfl⟩
        rw [← hF] at hst
        have hFl : ∀ x, (F x).length ≤ 31 := by intro x; rw [hF]; exact Nat.le_trans (woL_len _ _ _) (by omega)
        have hFo : ∀ x, Ok x → withoutR x m = F x ∧ bothE x m = 0 := by
          intro x hx
          have := bothE_ok hx hkm
          exact ⟨by rw [hF]; exact if_pos this, this⟩
        generalize hx : woL i.2 i.1 (unionC l) = x at *
        have HKL := Lib.hid hkl
        have HE2 := Lib.hid e2
        have HST := Lib.hid hst
        have HBO := Lib.hid hbo
        have HFL := Lib.hid hFl
        have HFO := Lib.hid hFo
        clear hst hbo hFl hFo hF e2 e3 hkl hkm hoi hol hom hx
        obtain ⟨a0, a1⟩ := cells2 b0
        go_wp2_with fail
        refine (Without_c i _ l _ H4.out (by omega)).mono ?_
        rintro e w5 ⟨v5, rfl, hr5, hB5⟩
        rw [HE2.out] at hr5
        rw [HKL.out]
        obtain ⟨A5, c5, rfl⟩ := own_len hr5
        have S5 := Lib.hid (slUp hB5 S4.out)
        have X5 := Lib.hid (own_sl hr5 (Nat.le_refl _))
        have H5 := Lib.hid (slUp hB5 H4'.out)
        replace hBa := bAft hB5 hBa (Nat.le_of_eq HN.out.symm)
        clear hr5 hB5 S4 H4 H4' a0 a1 b0
        go_wp2_with fail
        go_loopw [11, 12, 13, 14] (fun vo q _ _ wr => ∃ j : Nat, j ≤ x.length ∧ q = .int .i64 j ∧ wr.ownsRow w5.heap.size 23 2 vo ((x.take j).flatMap F).length (((x.take j).flatMap F).flatMap encIv) ∧ Below w5.heap.size w5 wr) (fun _ q _ _ _ => x.length - (intOf q).toNat)
        case atStart => exact ⟨0, Nat.zero_le _, rfl, World.ownsRow_made _ #[] 0 (Nat.le_refl _) (by simp [maxLen]) rfl, (Below.refl _ _).alloc (Nat.le_refl _) _⟩
        case round =>
          obtain ⟨j, hj, rfl, hrow, hB⟩ := hrel
          have HRW := Lib.hid hrow
          clear hrow
          by_cases hlt : j < x.length
          · obtain ⟨A', c', hv', hc', hm', hA'⟩ := X5.out
            obtain ⟨rfl, _, rfl⟩ : A5 = A' ∧ x.length = x.length ∧ c5 = c' := by injection hv' with h1 h2 h3; exact ⟨h1, h2, h3⟩
            obtain ⟨b, off, rfl, hb, hcell⟩ := hA' (by omega)
            obtain ⟨y, hy⟩ : ∃ y, x[j]? = some y := ⟨x[j], by simp [hlt]⟩
            have c0 : wr.cell? ⟨b, off + j * 2, none⟩ = some (.int .i64 y.1) := (hB.cell hb).trans (hcell _ y hy 0 _ rfl)
            have c1 : wr.cell? ⟨b, off + j * 2 + 1, none⟩ = some (.int .i64 y.2) := (hB.cell hb).trans (hcell _ y hy 1 _ rfl)
            have HT := Lib.hid (flat_take_succ F hy)
            have hyo := HFO.out y (HBO.out y (List.mem_of_getElem? hy))
            have hly : (F y).length ≤ 31 := HFL.out y
            have hlo : ((x.take j).flatMap F).length ≤ 961 := by
              have h1 := flatF_len F 31 HFL.out (x.take j)
              have h2 : (x.take j).length ≤ 31 := by rw [List.length_take]; omega
              omega
            clear hcell hy hA' hv' hm' hc'
            have g1 : (0 : Int) ≤ (j : Int) := by omega
            have g2 : (j : Int) < (x.length : Int) := by omega
            have H6 := Lib.hid (slUp hB H5.out)
            go_wp2_with fail
            refine (Without_c y _ m _ H6.out (by omega)).mono ?_
            rintro e w6 ⟨v6, rfl, hr6, hB6⟩
            rw [hyo.1] at hr6
            rw [hyo.2]
            have HV6 := Lib.hid (own_sl hr6 (Nat.le_refl _))
            have HO6 := Lib.hid (own_below hB6 HRW.out)
            have hB7 : Below w5.heap.size w5 w6 := bAft hB6 hB (Nat.le_refl _)
            clear hr6 c0 c1
            go_wp2_with (at_builtin; refine wpList_append_sl _ encIv rfl _ _ 24 rfl w5.heap.size 23 i0 (.agg #[.int .i64 0, .int .i64 0]) 2 16 Try.underlying24 hi hz0 hz1 hz2 rfl (by decide) _ _ _ rfl HO6.out _ _ (F y) (fun _ => rfl) rfl HV6.out encIv_one ?d1 ?d2 hB7.size ?_)
            case d1 => simp only [maxLen]; omega
            case d2 => omega
            intro v7 w7 hown7 hgrow7 _
            have hB8 : Below w5.heap.size w5 w7 := hB7.grown hgrow7 hB7.size (fun k e => (HO6.out.lt k e).1)
            have HO7 := Lib.hid hown7
            clear hown7 hgrow7
            go_wp2_with fail
            go_roundw
            case rel => exact ⟨j + 1, by omega, by go_num, by rw [HT.out, List.flatMap_append, List.length_append]; simpa using HO7.out, hB8⟩
            case measure => simp [intOf]; omega
          · obtain rfl : j = x.length := by omega
            have hrow := HRW.out
            rw [List.take_of_length_le (Nat.le_refl _), ← HST.out] at hrow
            have T6 := Lib.hid (own_sl hrow (Nat.le_refl _))
            have S6 := Lib.hid (slUp hB S5.out)
            replace hBa := bAft hB hBa (Nat.le_of_eq HN.out.symm)
            clear hrow HRW hB
            go_wp2_with fail
            refine (same_any _ _ R R _ S6.out T6.out).mono ?_
            rintro e w8 ⟨rfl, hB8⟩
            rw [show decide (R = R) = true from decide_eq_true rfl]
            go_wp2_with fail
            go_ret
            exact ⟨rfl, by rw [HN.out]; exact bAft hB8 hBa (Nat.le_of_eq HN.out.symm)⟩
      · have hk1 := neq_int_true hk0
        obtain ⟨a0, a1⟩ := cells2 b0
        go_wp2_with fail
        refine (Without_c i _ l _ H4.out (by omega)).mono ?_
        rintro e w5 ⟨v5, rfl, hr5, hB5⟩
        clear hr5
        replace hBa := bAft hB5 hBa (Nat.le_of_eq HN.out.symm)
        go_wp2_with fail
        go_ret
        exact ⟨rfl, by rw [HN.out]; exact hBa⟩

set_option maxRecDepth 100000 in
theorem intervalSteps_lifted (os : Os) (started : os.Started) (H : Type) (enc : TypeId × Value → H) :
    ReturnsInHanded {} Try.checked os 7 .any (Rows.intervalStepsSpec.pre6 enc Try.prog Try.f7 Rows.intervalStepsRow.domain false) (Rows.intervalStepsSpec.post enc Try.prog Try.f7 false true false false) := by
  refine returnsInHanded_of_change (C := Try.checked) own started (by kernel_rfl) Try.func7
    (ChangeSpec.witness6 (enc := enc) (C := Try.checked) false ⟨#[], #[.agg #[.int .i64 0, .int .i64 0], .slice none 0 0, .slice none 0 0], []⟩ 8 (by kernel_rfl) (by kernel_rfl) (by kernel_rfl) (by kernel_rfl)) ?_
  intro W base args ds gs before hval0 hW hcnd _
  have hval : ∀ (j : Nat) t v, Try.f7.params[j]? = some t → args[j]? = some v → Value.okWide Try.prog W .any base t v := hval0
  have hW' := hW
  obtain ⟨p, q, hA0, hV, rfl, hfz, hnd⟩ := hW
  have hA : DataW.TrodAll enc Try.prog W 0 (fun _ => true) true Try.f7.params.toList args.toList ds p := hA0
  rw [Try.params7] at hA hval
  obtain ⟨v0, vs0, d0, ds0, p0, q0, hargs, rfl, rfl, h0, r0⟩ := trodAll_cons hA
  obtain ⟨v1, vs1, d1, ds1, p1, q1, rfl, rfl, rfl, h1, r1⟩ := trodAll_cons r0
  obtain ⟨v2, vs2, d2, ds2, p2, q2, rfl, rfl, rfl, h2, r2⟩ := trodAll_cons r1
  obtain ⟨rfl, rfl, rfl⟩ := trodAll_nil r2
  obtain rfl : args = #[v0, v1, v2] := by cases args; simp_all
  obtain ⟨rfl, rfl⟩ := trodVars_none hV
  have k0 := h0
  have lt0 : ∀ x ∈ p0, x.block < W.heap.size := by obtain ⟨m, hm⟩ := k0; exact DataW.trod_lt m _ _ _ hm
  obtain ⟨a0, rfl⟩ := open_iv (hval 0 23 v0 rfl rfl) h0
  have k1 := h1
  have lt1 : ∀ x ∈ p1, x.block < W.heap.size := by obtain ⟨m, hm⟩ := k1; exact DataW.trod_lt m _ _ _ hm
  obtain ⟨a1, s1⟩ := open_ivs (hval 1 24 v1 rfl rfl) h1
  have k2 := h2
  have lt2 : ∀ x ∈ p2, x.block < W.heap.size := by obtain ⟨m, hm⟩ := k2; exact DataW.trod_lt m _ _ _ hm
  obtain ⟨a2, s2⟩ := open_ivs (hval 2 24 v2 rfl rfl) h2
  clear hA0 hval0
  refine (stepsLaw_any a0 v1 a1 v2 a2 W s1 s2).mono fun e W' ⟨he, bel⟩ => ?_
  subst he
  exact ⟨_, rfl, _, _, _, [], _, [], hW', trodAll_mk1 (shut_bool Try.underlying4 _), (trodAll_cons_mk (Below.trod laidOut (by kernel_rfl) (of_decide_eq_true (by kernel_rfl)) k0 bel lt0) (trodAll_cons_mk (Below.trod laidOut (by kernel_rfl) (of_decide_eq_true (by kernel_rfl)) k1 bel lt1) (trodAll_cons_mk (Below.trod laidOut (by kernel_rfl) (of_decide_eq_true (by kernel_rfl)) k2 bel lt2) trodAll_mk0))), rfl, bel.frame _, fun h => by cases h⟩

theorem intervalSteps_holds : Rows.IntervalStepsSaid :=
  OpenClaim.holds_of_wide 7 Try.f7 rfl rfl rfl rfl rfl rfl rfl ⟨rfl, rfl, rfl, rfl, rfl⟩ rfl rfl rfl rfl rfl (by kernel_rfl) Try.func7 (by kernel_rfl)
    (of_decide_eq_true (by kernel_rfl)) (by unfold Func.isWrapper; first | (rw [if_pos (by decide +kernel)]; kernel_rfl) | (rw [if_neg (by decide +kernel)]; exact ⟨rfl, rfl⟩))
    (fun os started H enc _ => intervalSteps_lifted os started H enc)

end Go.Proofs.Ytidaklcinddghaa
