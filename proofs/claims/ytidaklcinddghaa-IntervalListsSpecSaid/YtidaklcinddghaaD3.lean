/- The reference's Without and Inside. -/
import Derived.Test.YtidaklcinddghaaD2
import Derived.Test.YtidaklcinddghaaPs
namespace Go.Proofs.Ytidaklcinddghaa
open Go.RowKit Go.Shelf

theorem own_grown {w W w' : World} {v : Value} {n : Nat} {xs : List Value} {o : Obj} (h : Below w.heap.size w W) (hr : W.ownsRow w.heap.size 23 2 v n xs) (hg : (W.alloc o).grownBy w' v.ownBlock) : Below w.heap.size w w' :=
  (bAl h o).grown hg (by have := h.size; simp; omega) (fun k e => (hr.lt k e).1)

set_option maxRecDepth 100000 in
set_option maxHeartbeats 4000000 in
theorem rWithout_any (i : Int × Int) (v : Value) (l : List (Int × Int)) (w : World) (h : SlIv w v l) (hlen : l.length ≤ 1000000) : Calls Try.prog 16 #[ivV i, v] w (WithoutPost w i l) := by
  have H := Lib.hid h
  clear h
  obtain ⟨k, hk⟩ : ∃ k, bothE i l = k := ⟨_, rfl⟩
  have HK := Lib.hid hk
  by_cases hk0 : k = 0
  · subst hk0
    obtain ⟨hki, hkl⟩ := bothE_zero hk
    have hoi := ok_of_chk hki
    have hol := ok_of_chkAll hkl
    have HKL := Lib.hid hkl
    have hus : Sep (unionC l) := (unionC_spec (l := l) (fun x hx => (hol x hx).2.1)).1
    have huo := unionC_ok hol
    have hul : (unionC l).length ≤ 1000000 := Nat.le_trans (unionC_len l) hlen
    have HE3 : Hid (unionR l = unionC l) := Lib.hid (if_pos hkl)
    have HE4 : Hid (withoutR i l = woL i.2 i.1 (unionC l)) := Lib.hid (if_pos hk)
    generalize unionC l = u at *
    have HUS := Lib.hid hus
    have HUO := Lib.hid huo
    unfold Ok at hoi
    clear hk hki hkl hol hus huo
    obtain ⟨i0, hi0, hz0, hz1, hz2⟩ := info_parts info23
    go_enter Try.func16, Try.ntmps16
    go_wp2_with fail
    refine (rBoth_any i _ l _ (by exact slAl H.out _)).mono ?_
    rintro e w1 ⟨rfl, hB1⟩
    rw [HK.out]
    have b0 : Blk w1 w.heap.size 23 #[.int .i64 i.1, .int .i64 i.2] := (Blk.new w _ _).below hB1
    have H1 := Lib.hid (slUp hB1 (slAl H.out _))
    have hBa := bAfter (bAl (Below.refl _ w) _) hB1
    clear hB1 H
    go_wp2_with fail
    refine (rUnion_any _ l _ H1.out hlen).mono ?_
    rintro e w2 ⟨v2, rfl, hr2, hB2⟩
    rw [HE3.out] at hr2
    rw [HKL.out]
    replace b0 := bk hB2 b0
    have U2 := Lib.hid (own_sl hr2 (Nat.le_refl _))
    replace hBa := bAfter hBa hB2
    clear hB2 hr2 H1
    obtain ⟨Au, cu, rfl, hcu, hmu, hAu⟩ := U2.out
    have HU := Lib.hid hAu
    clear hAu hcu hmu U2
    obtain ⟨p0, p1⟩ := cells2 b0
    have l0 := b0.lt
    go_wp2_with fail
    go_loopw [9, 10, 11] (fun vo lv q wr => ∃ (k : Nat) (lo : Int) (out : List (Int × Int)), k ≤ u.length ∧ q = .int .i64 k ∧ lv = .int .i64 lo ∧ -1099511627776 ≤ lo ∧ lo ≤ 1099511627777 ∧ out.length ≤ k ∧ Hid (out ++ woL i.2 lo (u.drop k) = woL i.2 i.1 u) ∧ Hid (wr.ownsRow w2.heap.size 23 2 vo out.length (out.flatMap encIv)) ∧ Below w2.heap.size w2 wr) (fun _ _ q _ => u.length - (intOf q).toNat)
    case atStart => exact ⟨0, i.1, [], Nat.zero_le _, rfl, rfl, by omega, by omega, by simp, Lib.hid rfl, Lib.hid (by exact World.ownsRow_made _ #[] 0 (Nat.le_refl _) (by simp [maxLen]) rfl), (Below.refl _ _).alloc (Nat.le_refl _) _⟩
    case round =>
      obtain ⟨k, lo, out, hk, rfl, rfl, hl1, hl2, hlo, HQ, HR, hB⟩ := hrel
      have b1 := bk hB b0
      obtain ⟨a0, a1⟩ := cells2 b1
      by_cases hlt : k < u.length
      · obtain ⟨b, off, rfl, hb, hcell⟩ := HU.out (by omega)
        obtain ⟨x, hx⟩ : ∃ x, u[k]? = some x := ⟨u[k], by simp [hlt]⟩
        have c0 : wr.cell? ⟨b, off + k * 2, none⟩ = some (.int .i64 x.1) := (hB.cell hb).trans (hcell _ x hx 0 _ rfl)
        have c1 : wr.cell? ⟨b, off + k * 2 + 1, none⟩ = some (.int .i64 x.2) := (hB.cell hb).trans (hcell _ x hx 1 _ rfl)
        have hox := HUO.out x (List.mem_of_getElem? hx)
        unfold Ok at hox
        have HD := Lib.hid (drop_cons_of hx)
        have HSD : Hid (Sep (x :: u.drop (k + 1))) := Lib.hid (by rw [← HD.out]; exact sep_drop HUS.out k)
        clear hcell hx
        have g1 : (0 : Int) ≤ (k : Int) := by omega
        have g2 : (k : Int) < (u.length : Int) := by omega
        by_cases t1 : x.2 < lo
        · have hd : decide (x.2 < lo) = true := by simp [t1]
          go_wp2_with fail
          go_quiet (fail)
          have b0q : Blk (wr.drewN nq) w.heap.size 23 #[.int .i64 i.1, .int .i64 i.2] := b1
          have HRq : Hid ((wr.drewN nq).ownsRow w2.heap.size 23 2 u9 out.length (out.flatMap encIv)) := Lib.hid HR.out
          have hBq : Below w2.heap.size w2 (wr.drewN nq) := bDrN hB nq
          have c0q : (wr.drewN nq).cell? ⟨b, off + k * 2, none⟩ = some (.int .i64 x.1) := c0
          have c1q : (wr.drewN nq).cell? ⟨b, off + k * 2 + 1, none⟩ = some (.int .i64 x.2) := c1
          clear b1 HR hB c0 c1 a0 a1
          generalize wr.drewN nq = wq at *
          clear nq
          have b1 := b0q
          have HR := HRq
          have hB := hBq
          have c0 := c0q
          have c1 := c1q
          clear b0q HRq hBq c0q c1q
          obtain ⟨a0, a1⟩ := cells2 b1
          go_wp2_with fail
          go_roundw
          case rel => exact ⟨k + 1, lo, out, by omega, by go_num, rfl, by omega, by omega, by (first | omega | (simp; omega)), Lib.hid (by rw [← HQ.out, HD.out, woL_on HSD.out (.inl t1)]), HR, hB⟩
          case measure => simp [intOf]; omega
        · have hd : decide (x.2 < lo) = false := by simp; omega
          by_cases t2 : i.2 < x.1
          · have hd2 : decide (i.2 < x.1) = true := by simp [t2]
            go_wp2_with fail
            go_quiet (fail)
            have b0q : Blk (wr.drewN nq) w.heap.size 23 #[.int .i64 i.1, .int .i64 i.2] := b1
            have HRq : Hid ((wr.drewN nq).ownsRow w2.heap.size 23 2 u9 out.length (out.flatMap encIv)) := Lib.hid HR.out
            have hBq : Below w2.heap.size w2 (wr.drewN nq) := bDrN hB nq
            have c0q : (wr.drewN nq).cell? ⟨b, off + k * 2, none⟩ = some (.int .i64 x.1) := c0
            have c1q : (wr.drewN nq).cell? ⟨b, off + k * 2 + 1, none⟩ = some (.int .i64 x.2) := c1
            clear b1 HR hB c0 c1 a0 a1
            generalize wr.drewN nq = wq at *
            clear nq
            have b1 := b0q
            have HR := HRq
            have hB := hBq
            have c0 := c0q
            have c1 := c1q
            clear b0q HRq hBq c0q c1q
            obtain ⟨a0, a1⟩ := cells2 b1
            go_wp2_with fail
            go_roundw
            case rel => exact ⟨k + 1, lo, out, by omega, by go_num, rfl, by omega, by omega, by (first | omega | (simp; omega)), Lib.hid (by rw [← HQ.out, HD.out, woL_on HSD.out (.inr t2)]), HR, hB⟩
            case measure => simp [intOf]; omega
          · have hd2 : decide (i.2 < x.1) = false := by simp; omega
            go_wp2_with fail
            go_quiet (fail)
            have b0q : Blk (wr.drewN nq) w.heap.size 23 #[.int .i64 i.1, .int .i64 i.2] := b1
            have HRq : Hid ((wr.drewN nq).ownsRow w2.heap.size 23 2 u9 out.length (out.flatMap encIv)) := Lib.hid HR.out
            have hBq : Below w2.heap.size w2 (wr.drewN nq) := bDrN hB nq
            have c0q : (wr.drewN nq).cell? ⟨b, off + k * 2, none⟩ = some (.int .i64 x.1) := c0
            have c1q : (wr.drewN nq).cell? ⟨b, off + k * 2 + 1, none⟩ = some (.int .i64 x.2) := c1
            clear b1 HR hB c0 c1 a0 a1
            generalize wr.drewN nq = wq at *
            clear nq
            have b1 := b0q
            have HR := HRq
            have hB := hBq
            have c0 := c0q
            have c1 := c1q
            clear b0q HRq hBq c0q c1q
            obtain ⟨a0, a1⟩ := cells2 b1
            by_cases t3 : lo < x.1
            · have hd3 : decide (lo < x.1) = true := by simp [t3]
              go_wp2_with (at_builtin; refine wpList_append_own _ rfl _ _ 24 rfl w2.heap.size 23 i0 (.agg #[.int .i64 0, .int .i64 0]) 2 16 Try.underlying24 hi0 hz0 hz1 hz2 rfl (by decide) _ _ _ rfl (World.ownsRow.alloc (w := wq) HR.out _) ⟨wq.heap.size, 0, none⟩ 1 1 (encIv (lo, x.1 - 1)) rfl rfl ?c1 ?c2 ?c3 ?c4 ?c5 ?_)
              case c1 => exact encIv_new _ _ rfl (lo, x.1 - 1)
              case c2 => exact encIv_one _
              case c3 => simp only [maxLen]; omega
              case c4 => omega
              case c5 => have := hB.size; simp; omega
              intro v3 w3 hown hgrow _
              have hB3 := own_grown hB HR.out hgrow
              have d1 : w3.cell? ⟨b, off + k * 2 + 1, none⟩ = some (.int .i64 x.2) := (hB3.cell hb).trans ((hB.cell hb).symm.trans c1)
              have HO : Hid (w3.ownsRow w2.heap.size 23 2 v3 (out ++ [(lo, x.1 - 1)]).length ((out ++ [(lo, x.1 - 1)]).flatMap encIv)) := Lib.hid (by simpa using hown)
              clear hown hgrow
              go_wp2_with fail
              go_roundw
              case rel => exact ⟨k + 1, x.2 + 1, out ++ [(lo, x.1 - 1)], by omega, by go_num, rfl, by omega, by omega, by (first | omega | (simp; omega)), Lib.hid (by rw [← HQ.out, HD.out, woL_take (u := x) (by omega) (by omega) t3, List.append_assoc]; rfl), HO, hB3⟩
              case measure => simp [intOf]; omega
            · have hd3 : decide (lo < x.1) = false := by simp; omega
              go_wp2_with fail
              go_roundw
              case rel => exact ⟨k + 1, x.2 + 1, out, by omega, by go_num, rfl, by omega, by omega, by (first | omega | (simp; omega)), Lib.hid (by rw [← HQ.out, HD.out, woL_pass (u := x) (by omega) (by omega) (by omega)]), HR, hB⟩
              case measure => simp [intOf]; omega
      · obtain rfl : k = u.length := by omega
        have hfin : out ++ woFin lo i.2 = withoutR i l := by rw [HE4.out, ← HQ.out, List.drop_length]; rfl
        have HF := Lib.hid hfin
        clear hfin
        by_cases t : lo ≤ i.2
        · have hd : decide (lo ≤ i.2) = true := by simp [t]
          go_wp2_with (at_builtin; refine wpList_append_own _ rfl _ _ 24 rfl w2.heap.size 23 i0 (.agg #[.int .i64 0, .int .i64 0]) 2 16 Try.underlying24 hi0 hz0 hz1 hz2 rfl (by decide) _ _ _ rfl (World.ownsRow.alloc (w := wr) HR.out _) ⟨wr.heap.size, 0, none⟩ 1 1 (encIv (lo, i.2)) rfl rfl ?d1 ?d2 ?d3 ?d4 ?d5 ?_)
          case d1 => exact encIv_new _ _ rfl (lo, i.2)
          case d2 => exact encIv_one _
          case d3 => simp only [maxLen]; omega
          case d4 => omega
          case d5 => have := hB.size; simp; omega
          intro v3 w3 hown hgrow _
          have hB3 := own_grown hB HR.out hgrow
          have HO : Hid (w3.ownsRow w2.heap.size 23 2 v3 (out ++ [(lo, i.2)]).length ((out ++ [(lo, i.2)]).flatMap encIv)) := Lib.hid (by simpa using hown)
          clear hown hgrow
          go_wp2_with fail
          go_ret2
          refine ⟨v3, by rw [HK.out]; rfl, ?_, bAfter hBa hB3⟩
          rw [← HF.out, woFin, if_pos t]
          exact ownsRow_base HO.out hBa.size
        · have hd : decide (lo ≤ i.2) = false := by simp; omega
          go_wp2_with fail
          go_ret2
          refine ⟨u9, by rw [HK.out]; rfl, ?_, bAfter hBa hB⟩
          rw [← HF.out, woFin, if_neg (by omega), List.append_nil]
          exact ownsRow_base HR.out hBa.size
  · have hk1 := neq_int_true hk0
    clear hk
    go_enter Try.func16, Try.ntmps16
    go_wp2_with fail
    refine (rBoth_any i _ l _ (by exact slAl H.out _)).mono ?_
    rintro e w1 ⟨rfl, hB1⟩
    rw [HK.out]
    go_wp2_with fail
    go_ret2
    refine ⟨.slice none 0 0, by rw [HK.out]; rfl, ?_, bAfter (bAl (Below.refl _ w) _) hB1⟩
    rw [show withoutR i l = [] from if_neg (by rw [HK.out]; exact hk0)]
    exact World.ownsRow_nil _ _ _ _
end Go.Proofs.Ytidaklcinddghaa
