/- Proof of IntervalUnionOnce: for every list and every n the law returns true. No conditions. -/
import Derived.Test.YtidaklcinddghaaB1
import Derived.Test.YtidaklcinddghaaPn
import Derived.Test.YtidaklcinddghaaOp
namespace Go.Proofs.Ytidaklcinddghaa
open Go.ChangeShapes Go.WideShapes Go.ChangeAt Go.RowKit Go.Shelf

theorem rev_take_succ (l : List (Int × Int)) (j : Nat) (x : Int × Int) (hj : j < l.length) (hx : l[l.length - 1 - j]? = some x) : (l.reverse.take (j + 1)) = l.reverse.take j ++ [x] := by
  have : l.reverse[j]? = some x := by rw [List.getElem?_reverse hj]; exact hx
  rw [List.take_add_one, this]; rfl

set_option maxRecDepth 100000 in
set_option maxHeartbeats 4000000 in
theorem unionOnce_any (v : Value) (l : List (Int × Int)) (n : Int) (w : World) (h : SlIv w v l) (wn : (Lit.int .u64 n).wf = true) :
    Calls Try.prog 5 #[v, .int .u64 n] w fun e w' => e = .returned (.bool true) ∧ Below w.heap.size w w' := by
  obtain ⟨A, c, rfl, hS⟩ := h
  have H : Hid (SlIv w (.slice A l.length c) l) := Lib.hid ⟨A, c, rfl, hS⟩
  have hm : l.length ≤ maxLen := H.out.len_le
  unfold maxLen at hm
  clear hS
  have hn := bounds_u64 wn
  clear wn
  by_cases hl60 : 60 < l.length
  · go_enter Try.func5, Try.ntmps5
    go_wp2_with fail
    refine (sane_any _).mono ?_
    rintro e w1 ⟨rfl, hB1⟩
    go_wp2_with fail
    go_ret
    exact ⟨rfl, hB1⟩
  · have hd60 : decide ((60 : Int) < (l.length : Int)) = false := by simp; omega
    have hl60' : l.length ≤ 60 := by omega
    obtain ⟨k, hk⟩ : ∃ k, chkAll l = k := ⟨_, rfl⟩
    have HK := Lib.hid hk
    by_cases hk0 : k = 0
    · subst hk0
      clear hk
      have hok := ok_of_chkAll HK.out
      have HOK := Lib.hid hok
      clear hok
      go_enter Try.func5, Try.ntmps5
      go_wp2_with fail
      refine (sane_any _).mono ?_
      rintro e w1 ⟨rfl, hB1⟩
      have H1 := Lib.hid (slUp hB1 H.out)
      go_wp2_with fail
      refine (Union_c _ l _ H1.out (by omega)).mono ?_
      rintro e w2 ⟨v2, rfl, hr2, hB2⟩
      rw [HK.out]
      have hr2' : unionR l = unionC l := if_pos HK.out
      rw [hr2'] at hr2
      have S2 := Lib.hid (own_sl hr2 (Nat.le_refl _))
      have H2 := Lib.hid (slUp hB2 H1.out)
      replace hB1 := bAfter hB1 hB2
      clear hr2 hr2' hB2 H1
      go_wp2_with fail
      refine (Union_c _ (unionC l) _ S2.out (Nat.le_trans (unionC_len l) (by omega))).mono ?_
      rintro e w3 ⟨v3, rfl, hr3, hB3⟩
      have hz : chkAll (unionC l) = 0 := chkAll_of_ok (unionC_ok HOK.out)
      rw [hz]
      have hr3' : unionR (unionC l) = unionC l := by unfold unionR; rw [if_pos hz, unionC_idem HOK.out]
      rw [hr3'] at hr3
      have S3 := Lib.hid (slUp hB3 S2.out)
      have T3 := Lib.hid (own_sl hr3 (Nat.le_refl _))
      have H3 := Lib.hid (slUp hB3 H2.out)
      replace hB1 := bAfter hB1 hB3
      clear hr3 hr3' hB3 H2 S2 hz
      obtain ⟨i0, hi, hz0, hz1, hz2⟩ := info_parts info23
      go_wp2
      go_loopw [9, 10] (fun vb i wr => ∃ j : Nat, j ≤ l.length ∧ i = .int .i64 ((l.length : Int) - 1 - j) ∧ wr.ownsRow w3.heap.size 23 2 vb j ((l.reverse.take j).flatMap encIv) ∧ Below w3.heap.size w3 wr)
        (fun _ i _ => (intOf i + 1).toNat)
      case atStart => exact ⟨0, Nat.zero_le _, by simp, World.ownsRow_made _ #[] 0 (Nat.le_refl _) (by simp [maxLen]) rfl, (Below.refl _ _).alloc (Nat.le_refl _) _⟩
      case round =>
        obtain ⟨j, hj, rfl, hrow, hB⟩ := hrel
        have HR := Lib.hid hrow
        clear hrow
        by_cases hlt : j < l.length
        · obtain ⟨A', c', hv', hc', hm', hA'⟩ := H3.out
          obtain ⟨rfl, _, rfl⟩ : A = A' ∧ l.length = l.length ∧ c = c' := by injection hv' with h1 h2 h3; exact ⟨h1, h2, h3⟩
          obtain ⟨b, off, rfl, hb, hcell⟩ := hA' (by omega)
          obtain ⟨x, hx⟩ : ∃ x, l[l.length - 1 - j]? = some x := ⟨l[l.length - 1 - j]'(by omega), by simp⟩
          have hix : (((l.length : Int) - 1 - j)).toNat = l.length - 1 - j := by omega
          have c0 : wr.cell? ⟨b, off + (l.length - 1 - j) * 2, none⟩ = some (.int .i64 x.1) := (hB.cell hb).trans (hcell _ x hx 0 _ rfl)
          have c1 : wr.cell? ⟨b, off + (l.length - 1 - j) * 2 + 1, none⟩ = some (.int .i64 x.2) := (hB.cell hb).trans (hcell _ x hx 1 _ rfl)
          have HT := Lib.hid (rev_take_succ l j x hlt hx)
          clear hx hcell hA' hv' hm' hc'
          have g1 : (0 : Int) ≤ (l.length : Int) - 1 - j := by omega
          have g2 : (l.length : Int) - 1 - j < (l.length : Int) := by omega
          go_wp2_with (at_builtin; refine wpList_append_own _ rfl _ _ 24 rfl w3.heap.size 23 i0 (.agg #[.int .i64 0, .int .i64 0]) 2 16 Try.underlying24 hi hz0 hz1 hz2 rfl (by decide) _ _ _ rfl (HR.out.alloc _) ⟨wr.heap.size, 0, none⟩ 1 1 (encIv x) rfl rfl ?c1 ?c2 ?c3 ?c4 ?c5 ?_)
          case c1 => intro j u h; exact h
          case c2 => exact encIv_one _
          case c3 => simp only [maxLen]; omega
          case c4 => omega
          case c5 => have := hB.size; omega
          intro v' w5 hown' hgrow _
          have hB5 : Below w3.heap.size w3 w5 := (hB.alloc hB.size _).grown hgrow (by have := hB.size; simp; omega) (fun k e => (HR.out.lt k e).1)
          have HO := Lib.hid hown'
          clear hown' hgrow
          go_wp2_with fail
          go_roundw
          case rel => exact ⟨j + 1, by omega, by congr 1; omega, by rw [HT.out, List.flatMap_append]; simpa using HO.out, hB5⟩
          case measure => simp [intOf]; omega
        · obtain rfl : j = l.length := by omega
          have hrow : wr.ownsRow w3.heap.size 23 2 u9 l.reverse.length (l.reverse.flatMap encIv) := by
            have := HR.out
            rw [List.take_of_length_le (by simp)] at this
            simpa using this
          have HRR := Lib.hid hrow
          clear hrow HR
          by_cases hpos : 0 < l.length
          · have hqb := Int.emod_nonneg n (show (l.length : Int) ≠ 0 by omega)
            have hqb2 := Int.emod_lt_of_pos n (show (0 : Int) < l.length by omega)
            obtain ⟨q, hq⟩ : ∃ q : Nat, n % (l.length : Int) = q := ⟨(n % (l.length : Int)).toNat, by omega⟩
            have hql : q < l.length := by omega
            clear hqb hqb2
            obtain ⟨A', c', hv', hc', hm', hA'⟩ := H3.out
            obtain ⟨rfl, _, rfl⟩ : A = A' ∧ l.length = l.length ∧ c = c' := by injection hv' with h1 h2 h3; exact ⟨h1, h2, h3⟩
            obtain ⟨b, off, rfl, hb, hcell⟩ := hA' (by omega)
            obtain ⟨x, hx⟩ : ∃ x, l[q]? = some x := ⟨l[q], by simp [hql]⟩
            have c0 : wr.cell? ⟨b, off + q * 2, none⟩ = some (.int .i64 x.1) := (hB.cell hb).trans (hcell _ x hx 0 _ rfl)
            have c1 : wr.cell? ⟨b, off + q * 2 + 1, none⟩ = some (.int .i64 x.2) := (hB.cell hb).trans (hcell _ x hx 1 _ rfl)
            have hxm : x ∈ l := List.mem_of_getElem? hx
            clear hx hcell hA' hv' hm' hc'
            go_wp2_with (at_builtin; refine wpList_append_own _ rfl _ _ 24 rfl w3.heap.size 23 i0 (.agg #[.int .i64 0, .int .i64 0]) 2 16 Try.underlying24 hi hz0 hz1 hz2 rfl (by decide) _ _ _ rfl (HRR.out.alloc _) ⟨wr.heap.size, 0, none⟩ 1 1 (encIv x) rfl rfl ?c1 ?c2 ?c3 ?c4 ?c5 ?_)
            case c1 => intro j u h; exact h
            case c2 => exact encIv_one _
            case c3 => simp only [maxLen]; (first | omega | (simp; omega))
            case c4 => first | omega | (simp; omega)
            case c5 => have := hB.size; omega
            intro v' w5 hown' hgrow _
            have hB5 : Below w3.heap.size w3 w5 := (hB.alloc hB.size _).grown hgrow (by have := hB.size; simp; omega) (fun k e => (HRR.out.lt k e).1)
            obtain ⟨back, hback⟩ : ∃ back, back = l.reverse ++ [x] := ⟨_, rfl⟩
            have hown2 : w5.ownsRow w3.heap.size 23 2 v' back.length (back.flatMap encIv) := by rw [hback, List.flatMap_append]; simpa using hown'
            have SB := Lib.hid (own_sl hown2 (Nat.le_refl _))
            have hbl : back.length = l.length + 1 := by rw [hback]; simp
            have hbm : ∀ y, y ∈ back ↔ y ∈ l := by
              intro y
              rw [hback]
              simp only [List.mem_append, List.mem_reverse, List.mem_singleton]
              exact ⟨fun h => h.elim id (fun h => by rw [h]; exact hxm), .inl⟩
            clear hown' hown2 hgrow hback hq c0 c1 HRR hxm hql
            replace hB := hB5
            have hBx : Below w5.heap.size w5 w5 := Below.refl _ _
            clear hB5
            have S5 := Lib.hid (slUp hBx (slUp hB S3.out))
            have T5 := Lib.hid (slUp hBx (slUp hB T3.out))
            have hBw := bAfter (bAfter hB1 hB) hBx
            clear S3 T3 H3 hB1 hB hBx
            go_wp2_with fail
            refine (Union_c _ back _ SB.out (by rw [hbl]; omega)).mono ?_
            rintro e w6 ⟨v6, rfl, hr6, hB6⟩
            have hz : chkAll back = 0 := chkAll_of_ok (fun x hx => HOK.out x ((hbm x).1 hx))
            have hr6' : unionR back = unionC l := by
              unfold unionR
              rw [if_pos hz]
              exact unionC_same HOK.out (fun x hx => HOK.out x ((hbm x).1 hx)) (memL_of_sub hbm)
            rw [hz]
            rw [hr6'] at hr6
            have S6 := Lib.hid (slUp hB6 S5.out)
            have T6 := Lib.hid (slUp hB6 T5.out)
            have U6 := Lib.hid (own_sl hr6 (Nat.le_refl _))
            replace hBw := bAfter hBw hB6
            clear S5 T5 hr6 hr6' hB6 hz SB hbm hbl
            go_wp2_with fail
            refine (same_any _ _ (unionC l) (unionC l) _ S6.out T6.out).mono ?_
            rintro e w7 ⟨rfl, hB7⟩
            rw [show decide (unionC l = unionC l) = true from decide_eq_true rfl]
            have S7 := Lib.hid (slUp hB7 S6.out)
            have U7 := Lib.hid (slUp hB7 U6.out)
            replace hBw := bAfter hBw hB7
            clear S6 T6 U6 hB7
            go_wp2_with fail
            refine (same_any _ _ (unionC l) (unionC l) _ S7.out U7.out).mono ?_
            rintro e w8 ⟨rfl, hB8⟩
            rw [show decide (unionC l = unionC l) = true from decide_eq_true rfl]
            go_wp2_with fail
            go_ret
            exact ⟨rfl, bAfter hBw hB8⟩
          · obtain ⟨back, hback⟩ : ∃ back, back = l.reverse := ⟨_, rfl⟩
            have SB : Hid (SlIv wr u9 back) := by rw [hback]; exact Lib.hid (own_sl HRR.out (Nat.le_refl _))
            have hbl : back.length = l.length := by rw [hback]; simp
            have hbm : ∀ y, y ∈ back ↔ y ∈ l := by intro y; rw [hback, List.mem_reverse]
            have hBx : Below wr.heap.size wr wr := Below.refl _ _
            clear hback HRR
            have S5 := Lib.hid (slUp hBx (slUp hB S3.out))
            have T5 := Lib.hid (slUp hBx (slUp hB T3.out))
            have hBw := bAfter (bAfter hB1 hB) hBx
            clear S3 T3 H3 hB1 hB hBx
            go_wp2_with fail
            refine (Union_c _ back _ SB.out (by rw [hbl]; omega)).mono ?_
            rintro e w6 ⟨v6, rfl, hr6, hB6⟩
            have hz : chkAll back = 0 := chkAll_of_ok (fun x hx => HOK.out x ((hbm x).1 hx))
            have hr6' : unionR back = unionC l := by
              unfold unionR
              rw [if_pos hz]
              exact unionC_same HOK.out (fun x hx => HOK.out x ((hbm x).1 hx)) (memL_of_sub hbm)
            rw [hz]
            rw [hr6'] at hr6
            have S6 := Lib.hid (slUp hB6 S5.out)
            have T6 := Lib.hid (slUp hB6 T5.out)
            have U6 := Lib.hid (own_sl hr6 (Nat.le_refl _))
            replace hBw := bAfter hBw hB6
            clear S5 T5 hr6 hr6' hB6 hz SB hbm hbl
            go_wp2_with fail
            refine (same_any _ _ (unionC l) (unionC l) _ S6.out T6.out).mono ?_
            rintro e w7 ⟨rfl, hB7⟩
            rw [show decide (unionC l = unionC l) = true from decide_eq_true rfl]
            have S7 := Lib.hid (slUp hB7 S6.out)
            have U7 := Lib.hid (slUp hB7 U6.out)
            replace hBw := bAfter hBw hB7
            clear S6 T6 U6 hB7
            go_wp2_with fail
            refine (same_any _ _ (unionC l) (unionC l) _ S7.out U7.out).mono ?_
            rintro e w8 ⟨rfl, hB8⟩
            rw [show decide (unionC l = unionC l) = true from decide_eq_true rfl]
            go_wp2_with fail
            go_ret
            exact ⟨rfl, bAfter hBw hB8⟩
    · have hk1 := neq_int_true hk0
      clear hk
      go_enter Try.func5, Try.ntmps5
      go_wp2_with fail
      refine (sane_any _).mono ?_
      rintro e w1 ⟨rfl, hB1⟩
      have H1 := Lib.hid (slUp hB1 H.out)
      go_wp2_with fail
      refine (Union_c _ l _ H1.out (by omega)).mono ?_
      rintro e w2 ⟨v2, rfl, hr2, hB2⟩
      rw [HK.out]
      have hr2' : unionR l = [] := if_neg (by rw [HK.out]; exact hk0)
      rw [hr2'] at hr2
      obtain ⟨A2, c2, rfl⟩ : ∃ A2 c2, v2 = .slice A2 0 c2 := by
        rcases hr2.2 with ⟨rfl, _⟩ | ⟨_, _, _, rfl, _⟩ <;> exact ⟨_, _, rfl⟩
      clear hr2 hr2'
      go_wp2_with fail
      go_ret
      exact ⟨rfl, bAfter hB1 hB2⟩

set_option maxRecDepth 100000 in
theorem intervalUnionOnce_lifted (os : Os) (started : os.Started) (H : Type) (enc : TypeId × Value → H) :
    ReturnsInHanded {} Try.checked os 5 .any (Rows.intervalUnionOnceSpec.pre6 enc Try.prog Try.f5 Rows.intervalUnionOnceRow.domain false) (Rows.intervalUnionOnceSpec.post enc Try.prog Try.f5 false true false false) := by
  refine returnsInHanded_of_change (C := Try.checked) own started (by kernel_rfl) Try.func5
    (ChangeSpec.witness6 (enc := enc) (C := Try.checked) false ⟨#[], #[.slice none 0 0, .int .u64 0], []⟩ 8 (by kernel_rfl) (by kernel_rfl) (by kernel_rfl) (by kernel_rfl)) ?_
  intro W base args ds gs before hval0 hW hcnd _
  have hval : ∀ (j : Nat) t v, Try.f5.params[j]? = some t → args[j]? = some v → Value.okWide Try.prog W .any base t v := hval0
  have hW' := hW
  obtain ⟨p, q, hA0, hV, rfl, hfz, hnd⟩ := hW
  have hA : DataW.TrodAll enc Try.prog W 0 (fun _ => true) true Try.f5.params.toList args.toList ds p := hA0
  rw [Try.params5] at hA hval
  obtain ⟨v0, vs0, d0, ds0, p0, q0, hargs, rfl, rfl, h0, r0⟩ := trodAll_cons hA
  obtain ⟨v1, vs1, d1, ds1, p1, q1, rfl, rfl, rfl, h1, r1⟩ := trodAll_cons r0
  obtain ⟨rfl, rfl, rfl⟩ := trodAll_nil r1
  obtain rfl : args = #[v0, v1] := by cases args; simp_all
  obtain ⟨rfl, rfl⟩ := trodVars_none hV
  have k0 := h0
  have lt0 : ∀ x ∈ p0, x.block < W.heap.size := by obtain ⟨m, hm⟩ := k0; exact DataW.trod_lt m _ _ _ hm
  obtain ⟨a0, s0⟩ := open_ivs (hval 0 24 v0 rfl rfl) h0
  have k1 := h1
  have lt1 : ∀ x ∈ p1, x.block < W.heap.size := by obtain ⟨m, hm⟩ := k1; exact DataW.trod_lt m _ _ _ hm
  obtain ⟨a1, rfl, _, _, w1⟩ := open_int Try.underlying41 (hval 1 41 v1 rfl rfl) h1
  clear hA0 hval0
  refine (unionOnce_any v0 a0 a1 W s0 w1).mono fun e W' ⟨he, bel⟩ => ?_
  subst he
  exact ⟨_, rfl, _, _, _, [], _, [], hW', trodAll_mk1 (shut_bool Try.underlying4 _), (trodAll_cons_mk (Below.trod laidOut (by kernel_rfl) (of_decide_eq_true (by kernel_rfl)) k0 bel lt0) (trodAll_cons_mk (Below.trod laidOut (by kernel_rfl) (of_decide_eq_true (by kernel_rfl)) k1 bel lt1) trodAll_mk0)), rfl, bel.frame _, fun h => by cases h⟩

theorem intervalUnionOnce_holds : Rows.IntervalUnionOnceSaid :=
  OpenClaim.holds_of_wide 5 Try.f5 rfl rfl rfl rfl rfl rfl rfl ⟨rfl, rfl, rfl, rfl, rfl⟩ rfl rfl rfl rfl rfl (by kernel_rfl) Try.func5 (by kernel_rfl)
    (of_decide_eq_true (by kernel_rfl)) (by unfold Func.isWrapper; first | (rw [if_pos (by decide +kernel)]; kernel_rfl) | (rw [if_neg (by decide +kernel)]; exact ⟨rfl, rfl⟩))
    (fun os started H enc _ => intervalUnionOnce_lifted os started H enc)

end Go.Proofs.Ytidaklcinddghaa
