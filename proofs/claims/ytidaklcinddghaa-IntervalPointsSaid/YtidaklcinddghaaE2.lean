/- Proof of IntervalPoints: for every integer, interval and list an integer is in the union and in what remains exactly as the lists say. No conditions. -/
import Derived.Test.YtidaklcinddghaaE1
import Derived.Test.YtidaklcinddghaaOp
namespace Go.Proofs.Ytidaklcinddghaa
open Go.ChangeShapes Go.WideShapes Go.ChangeAt Go.RowKit Go.Shelf

theorem later_some {w : World} {s : Later w} {x : Int} {v : Value} {l : List (Int × Int)} (h : SlIv w v l) {b : Bool} (hb : someB x l = b) :
    Calls Try.prog 20 #[.int .i64 x, v] s.at fun e w'' => e = .returned (.bool b) ∧ ∃ s' : Later w, w'' = s'.at :=
  later_of (some_eq x v l _ (slUp s.below h) hb)
theorem later_in {w : World} {s : Later w} {x : Int} {i : Int × Int} {b : Bool} (hb : inB x i = b) :
    Calls Try.prog 21 #[.int .i64 x, ivV i] s.at fun e w'' => e = .returned (.bool b) ∧ ∃ s' : Later w, w'' = s'.at :=
  later_of (in_eq x i _ hb)
theorem slDr' {w : World} {v : Value} {l : List (Int × Int)} (h : SlIv w v l) : SlIv w.drew v l := h

theorem slIAl {w : World} {v : Value} {l : List Int} (h : SlI w v l) (o : Obj) : SlI (w.alloc o) v l := by
  have hb : Below w.heap.size w (w.alloc o) := (Below.refl _ _).alloc (Nat.le_refl _) _
  exact (Sl.below h hb).more hb.size
theorem own_form {w : World} {base : Nat} {e : TypeId} {size n : Nat} {v : Value} {xs : List Value} (h : w.ownsRow base e size v n xs) : ∃ A c, v = .slice A n c := by
  rcases h.2 with ⟨rfl, rfl⟩ | ⟨_, _, _, rfl, _⟩ <;> exact ⟨_, _, rfl⟩
theorem slIDr {w : World} {v : Value} {l : List Int} (h : SlI w v l) : SlI w.drew v l := h

theorem someB_union {l : List (Int × Int)} (h : ∀ x ∈ l, Ok x) (x : Int) : someB x (unionC l) = someB x l := by
  rw [Bool.eq_iff_iff, someB_iff, someB_iff]
  exact (unionC_spec (fun y hy => (h y hy).2.1)).2 x
theorem someB_without {i : Int × Int} {l : List (Int × Int)} (h : ∀ x ∈ l, Ok x) (x : Int) : someB x (woL i.2 i.1 (unionC l)) = (inB x i && !someB x l) := by
  rw [Bool.eq_iff_iff, someB_iff, (without_spec h).2 x, Bool.and_eq_true, inB_iff, Bool.not_eq_true', ← Bool.not_eq_true, someB_iff]

set_option maxRecDepth 100000 in
set_option maxHeartbeats 8000000 in
theorem points_any (n : Int) (i : Int × Int) (v : Value) (l : List (Int × Int)) (w : World) (_ : (Lit.int .i64 n).wf = true) (h : SlIv w v l) :
    Calls Try.prog 4 #[.int .i64 n, ivV i, v] w fun e w' => e = .returned (.bool true) ∧ Below w.heap.size w w' := by
  obtain ⟨A, c, rfl, hS⟩ := h
  have H : Hid (SlIv w (.slice A l.length c) l) := Lib.hid ⟨A, c, rfl, hS⟩
  have hm : l.length ≤ maxLen := H.out.len_le
  unfold maxLen at hm
  clear hS
  by_cases hl : 100 < l.length
  · go_enter Try.func4, Try.ntmps4
    go_wp2_with fail
    refine (sane_any _).mono ?_
    rintro e w1 ⟨rfl, hB1⟩
    go_wp2_with fail
    go_ret
    exact ⟨rfl, bAfter (bAl (Below.refl _ w) _) hB1⟩
  · have hd100 : decide ((100 : Int) < (l.length : Int)) = false := by simp; omega
    have hl' : l.length ≤ 100 := by omega
    obtain ⟨k1, hk1⟩ : ∃ k, chkAll l = k := ⟨_, rfl⟩
    have HK1 := Lib.hid hk1
    obtain ⟨k2, hk2⟩ : ∃ k, bothE i l = k := ⟨_, rfl⟩
    have HK2 := Lib.hid hk2
    obtain ⟨k3, hk3⟩ : ∃ k, chk i = k := ⟨_, rfl⟩
    have HK3 := Lib.hid hk3
    have hk : k2 = if k3 = 0 then k1 else k3 := by rw [← hk1, ← hk2, ← hk3]; rfl
    by_cases h2 : k2 = 0
    · subst h2
      obtain ⟨hki, hkl⟩ := bothE_zero hk2
      obtain rfl : k1 = 0 := by rw [← hk1, hkl]
      have hoi := ok_of_chk hki
      have hol := ok_of_chkAll hkl
      have HOL := Lib.hid hol
      have e2 : withoutR i l = woL i.2 i.1 (unionC l) := if_pos hk2
      have e3 : unionR l = unionC l := if_pos hkl
      have huo := unionC_ok hol
      have hus : Sep (unionC l) := (unionC_spec (fun y hy => (hol y hy).2.1)).1
      have hws := (without_spec (i := i) hol).1
      have hwo := without_ok hoi hol
      have hub : ∀ x, someB x (unionC l) = someB x l := someB_union hol
      have hwb : ∀ x, someB x (woL i.2 i.1 (unionC l)) = (inB x i && !someB x l) := someB_without hol
      generalize woL i.2 i.1 (unionC l) = x at *
      generalize unionC l = u at *
      have HE2 := Lib.hid e2
      have HE3 := Lib.hid e3
      have HUO := Lib.hid huo
      have HUS := Lib.hid hus
      have HWS := Lib.hid hws
      have HWO := Lib.hid hwo
      have HUB := Lib.hid hub
      have HWB := Lib.hid hwb
      unfold Ok at hoi
      clear e2 e3 huo hus hws hwo hub hwb hki hkl hol hk1 hk2 hk3 hk HK3
      go_enter Try.func4, Try.ntmps4
      go_wp2_with fail
      refine (sane_any _).mono ?_
      rintro e w1 ⟨rfl, hB1⟩
      have b0 : Blk w1 w.heap.size 23 #[.int .i64 i.1, .int .i64 i.2] := (Blk.new w _ _).below hB1
      have H1 := Lib.hid (slUp hB1 (slAl H.out _))
      have hBa := bAfter (bAl (Below.refl _ w) _) hB1
      clear hB1 H
      go_wp2_with fail
      refine (Union_c _ l _ H1.out (by omega)).mono ?_
      rintro e w2 ⟨v2, rfl, hr2, hB2⟩
      rw [HK1.out]
      rw [HE3.out] at hr2
      replace b0 := bk hB2 b0
      have H2 := Lib.hid (slUp hB2 H1.out)
      have U2 := Lib.hid (own_sl hr2 (Nat.le_refl _))
      replace hBa := bAfter hBa hB2
      clear hB2 H1 hr2
      obtain ⟨a0, a1⟩ := cells2 b0
      go_wp2_with fail
      refine (Without_c i _ l _ H2.out (by omega)).mono ?_
      rintro e w3 ⟨v3, rfl, hr3, hB3⟩
      rw [HK2.out]
      rw [HE2.out] at hr3
      replace b0 := bk hB3 b0
      have H3 := Lib.hid (slUp hB3 H2.out)
      have U3 := Lib.hid (slUp hB3 U2.out)
      have X3 := Lib.hid (own_sl hr3 (Nat.le_refl _))
      replace hBa := bAfter hBa hB3
      clear hB3 H2 U2 a0 a1 hr3
      have wy : IntKind.i64.wrap (i.2 + 1) = i.2 + 1 := IntWalk.i64_in _ (by omega)
      have wx : IntKind.i64.wrap (i.1 - 1) = i.1 - 1 := IntWalk.i64_in _ (by omega)
      generalize hN : w.heap.size = N at *
      have HN := Lib.hid hN
      clear hN
      obtain ⟨i0, hi, hz0, hz1, hz2⟩ := info_parts info3
      obtain ⟨a0, a1⟩ := cells2 b0
      go_wp2_with fail
      have b3 := b0
      go_region_held3 (fun W => W.cell? ⟨N, 0, none⟩ = some (.int .i64 i.1) ∧ W.cell? ⟨N, 1, none⟩ = some (.int .i64 i.2))
        (first | exact ⟨b0.cell 0, b0.cell 1⟩ | exact ⟨(b0.alloc _).cell 0, (b0.alloc _).cell 1⟩)
        (first
          | (go_at_call 19; refine (ends_any _ l _ ?hs HOL.out (by omega)).mono ?_; (case hs => first | exact H3.out | exact slAl H3.out _); rintro e w4 ⟨v4, ls, rfl, S4, hl4, hB4⟩; (first | (replace b0 := bk hB4 b0) | (replace b0 := bk hB4 (b0.alloc _))))
          | (refine step_append_sl _ encI rfl (.tmp 69) (.tmp 71) 35 rfl w3.heap.size 3 i0 (.int .i64 0) 1 8 Try.underlying35 hi hz0 hz1 hz2 rfl (by decide) _ 5 _ rfl (own_up (World.ownsRow_lit (base := w3.heap.size) (e := 3) (size := 1) w3 #[.int .i64 n, .int .i64 i.1, .int .i64 i.2, .int .i64 (i.1 - 1), .int .i64 (i.2 + 1)] 5 (Nat.le_refl _) (by simp [maxLen]) rfl).drew hB4) _ _ ls (fun _ => rfl) rfl S4 encI_one ?c1 ?c2 ?c3 ?_; (case c1 => (simp only [maxLen]; omega)); (case c2 => omega); (case c3 => first | exact Nat.le_trans (by simp) hB4.size | (have := hB4.size; simp; omega));
             intro v5 w5 hown hgrow _; obtain ⟨A5, c5, rfl⟩ := own_form hown;
             have hB5 : Below w3.heap.size w3 w5 := (bAfter (bAl (Below.refl _ w3) _).drew hB4).grown hgrow (by have := hB4.size; simp at this; simp; omega) (fun k e => ((own_up (World.ownsRow_lit (base := w3.heap.size) (e := 3) (size := 1) w3 #[.int .i64 n, .int .i64 i.1, .int .i64 i.2, .int .i64 (i.1 - 1), .int .i64 (i.2 + 1)] 5 (Nat.le_refl _) (by simp [maxLen]) rfl).drew hB4).lt k e).1);
             have HO : Hid (w5.ownsRow w3.heap.size 3 1 (.slice A5 (5 + ls.length) c5) (5 + ls.length) (([n, i.1, i.2, i.1 - 1, i.2 + 1] ++ ls).flatMap encI)) := Lib.hid (by (rw [List.flatMap_append]; exact hown));
             (replace b0 := bk hB5 b3);
             clear hgrow hown)
          | (refine step_append_sl _ encI rfl (.tmp 69) (.tmp 71) 35 rfl w3.heap.size 3 i0 (.int .i64 0) 1 8 Try.underlying35 hi hz0 hz1 hz2 rfl (by decide) _ 5 _ rfl (World.ownsRow_lit (base := w3.heap.size) (e := 3) (size := 1) w4 #[.int .i64 n, .int .i64 i.1, .int .i64 i.2, .int .i64 (i.1 - 1), .int .i64 (i.2 + 1)] 5 (show w3.heap.size ≤ w4.heap.size from hB4.size) (by simp [maxLen]) rfl) _ _ ls (fun _ => rfl) rfl (slIAl S4 _) encI_one ?c1 ?c2 ?c3 ?_; (case c1 => (simp only [maxLen]; omega)); (case c2 => omega); (case c3 => (have h43 : w3.heap.size ≤ w4.heap.size := hB4.size; simp; omega));
             intro v5 w5 hown hgrow _; obtain ⟨A5, c5, rfl⟩ := own_form hown;
             have hB5 : Below w3.heap.size w3 w5 := (bAl (bAfter (Below.refl _ w3).drew hB4) _).grown hgrow (by have h43 : w3.heap.size ≤ w4.heap.size := hB4.size; simp; omega) (fun k e => ((World.ownsRow_lit (base := w3.heap.size) (e := 3) (size := 1) w4 #[.int .i64 n, .int .i64 i.1, .int .i64 i.2, .int .i64 (i.1 - 1), .int .i64 (i.2 + 1)] 5 (show w3.heap.size ≤ w4.heap.size from hB4.size) (by simp [maxLen]) rfl).lt k e).1);
             have HO : Hid (w5.ownsRow w3.heap.size 3 1 (.slice A5 (5 + ls.length) c5) (5 + ls.length) (([n, i.1, i.2, i.1 - 1, i.2 + 1] ++ ls).flatMap encI)) := Lib.hid (by (rw [List.flatMap_append]; exact hown));
             (replace b0 := bk hB5 b3);
             clear hgrow hown))
      all_goals
        obtain ⟨L, hL, hOL⟩ : ∃ L : List Int, L.length = 5 + ls.length ∧ w5.ownsRow w3.heap.size 3 1 (.slice A5 (5 + ls.length) c5) (5 + ls.length) (L.flatMap encI) := ⟨[n, i.1, i.2, i.1 - 1, i.2 + 1] ++ ls, by simp; omega, HO.out⟩
        have hSL : SlI w5 (.slice A5 (5 + ls.length) c5) L := own_slI (by rw [hL]; exact hOL) (Nat.le_refl _)
        obtain ⟨A', c', hv', _, _, hA'⟩ := hSL
        obtain ⟨rfl, _, rfl⟩ : A5 = A' ∧ 5 + ls.length = L.length ∧ c5 = c' := by injection hv' with h1 h2 h3; exact ⟨h1, h2, h3⟩
        have HA := Lib.hid hA'
        have HL := Lib.hid hL
        have H5 := Lib.hid (slUp hB5 H3.out)
        have U5 := Lib.hid (slUp hB5 U3.out)
        have X5 := Lib.hid (slUp hB5 X3.out)
        replace hBa := bAft hB5 hBa (Nat.le_of_eq HN.out.symm)
        clear hv' hA' hOL hL HO wx wy S4 hB4 hB5 H3 U3 X3 b3 a0 a1
        go_wp2_with fail
        go_loopw [12, 74] (fun _ q wr => ∃ k : Nat, k ≤ 5 + ls.length ∧ q = .int .i64 k ∧ Below w5.heap.size w5 wr) (fun _ q _ => 5 + ls.length - (intOf q).toNat)
        case atStart => exact ⟨0, Nat.zero_le _, rfl, Below.refl _ _⟩
        case round =>
          obtain ⟨k, hk, rfl, hB⟩ := hrel
          have b1 := bk hB b0
          have H6 := Lib.hid (slUp hB H5.out)
          have U6 := Lib.hid (slUp hB U5.out)
          have X6 := Lib.hid (slUp hB X5.out)
          by_cases hlt : k < 5 + ls.length
          · obtain ⟨b, off, rfl, hb, hcell⟩ := HA.out (by rw [HL.out]; omega)
            obtain ⟨y, hy⟩ : ∃ y, L[k]? = some y := ⟨L[k]'(by rw [HL.out]; omega), List.getElem?_eq_getElem _⟩
            have c0 : wr.cell? ⟨b, off + k, none⟩ = some (.int .i64 y) := by
              have := (hB.cell hb).trans (hcell k y hy 0 _ rfl)
              simpa using this
            have q1 := HUB.out y
            have q3 := HWB.out y
            have z0 := later_cell b1 0 rfl
            have z1 := later_cell b1 1 rfl
            have g1 : (0 : Int) ≤ (k : Int) := by omega
            have g2 : (k : Int) < 5 + (ls.length : Int) := by omega
            clear hcell hy
            cases q2 : someB y l with
            | true =>
              rw [q2] at q1 q3
              rw [Bool.not_true, Bool.and_false] at q3
              cases q4 : inB y i with
              | true =>
                go_wp2_with fail
                refine wp_region_later (by kernel_rfl) (by kernel_rfl) ?_
                repeat (first | go_big_quiet_step ((first | with_reducible exact later_some U6.out q1 | with_reducible exact later_some H6.out q2 | with_reducible exact later_some X6.out q3 | with_reducible exact later_in q4)) | quiet_step ((first | with_reducible exact later_some U6.out q1 | with_reducible exact later_some H6.out q2 | with_reducible exact later_some X6.out q3 | with_reducible exact later_in q4)))
                refine wpQuiet_nil ?_
                rintro _ ⟨s, rfl⟩
                have hB7 := s.below
                generalize s.at = w7 at *
                clear z0 z1
                go_wp2_with fail
                go_roundw
                case rel => exact ⟨k + 1, by omega, by go_num, bAfter hB hB7⟩
                case measure => simp [intOf]; omega
              | false =>
                go_wp2_with fail
                refine wp_region_later (by kernel_rfl) (by kernel_rfl) ?_
                repeat (first | go_big_quiet_step ((first | with_reducible exact later_some U6.out q1 | with_reducible exact later_some H6.out q2 | with_reducible exact later_some X6.out q3 | with_reducible exact later_in q4)) | quiet_step ((first | with_reducible exact later_some U6.out q1 | with_reducible exact later_some H6.out q2 | with_reducible exact later_some X6.out q3 | with_reducible exact later_in q4)))
                refine wpQuiet_nil ?_
                rintro _ ⟨s, rfl⟩
                have hB7 := s.below
                generalize s.at = w7 at *
                clear z0 z1
                go_wp2_with fail
                go_roundw
                case rel => exact ⟨k + 1, by omega, by go_num, bAfter hB hB7⟩
                case measure => simp [intOf]; omega
            | false =>
              rw [q2] at q1 q3
              rw [Bool.not_false, Bool.and_true] at q3
              cases q4 : inB y i with
              | true =>
                rw [q4] at q3
                go_wp2_with fail
                refine wp_region_later (by kernel_rfl) (by kernel_rfl) ?_
                repeat (first | go_big_quiet_step ((first | with_reducible exact later_some U6.out q1 | with_reducible exact later_some H6.out q2 | with_reducible exact later_some X6.out q3 | with_reducible exact later_in q4)) | quiet_step ((first | with_reducible exact later_some U6.out q1 | with_reducible exact later_some H6.out q2 | with_reducible exact later_some X6.out q3 | with_reducible exact later_in q4)))
                refine wpQuiet_nil ?_
                rintro _ ⟨s, rfl⟩
                have hB7 := s.below
                generalize s.at = w7 at *
                clear z0 z1
                go_wp2_with fail
                go_roundw
                case rel => exact ⟨k + 1, by omega, by go_num, bAfter hB hB7⟩
                case measure => simp [intOf]; omega
              | false =>
                rw [q4] at q3
                go_wp2_with fail
                refine wp_region_later (by kernel_rfl) (by kernel_rfl) ?_
                repeat (first | go_big_quiet_step ((first | with_reducible exact later_some U6.out q1 | with_reducible exact later_some H6.out q2 | with_reducible exact later_some X6.out q3 | with_reducible exact later_in q4)) | quiet_step ((first | with_reducible exact later_some U6.out q1 | with_reducible exact later_some H6.out q2 | with_reducible exact later_some X6.out q3 | with_reducible exact later_in q4)))
                refine wpQuiet_nil ?_
                rintro _ ⟨s, rfl⟩
                have hB7 := s.below
                generalize s.at = w7 at *
                clear z0 z1
                go_wp2_with fail
                go_roundw
                case rel => exact ⟨k + 1, by omega, by go_num, bAfter hB hB7⟩
                case measure => simp [intOf]; omega
          · obtain rfl : k = 5 + ls.length := by omega
            go_wp2_with fail
            refine (separated_any _ u _ U6.out HUS.out HUO.out).mono ?_
            rintro e w7 ⟨rfl, hB7⟩
            have X7 := Lib.hid (slUp hB7 X6.out)
            go_wp2_with fail
            refine (separated_any _ x _ X7.out HWS.out HWO.out).mono ?_
            rintro e w8 ⟨rfl, hB8⟩
            go_wp2_with fail
            go_ret
            exact ⟨rfl, by rw [HN.out]; exact bAft hB8 (bAft hB7 (bAft hB hBa (Nat.le_of_eq HN.out.symm)) (Nat.le_of_eq HN.out.symm)) (Nat.le_of_eq HN.out.symm)⟩
    · have hn2 := neq_int_true h2
      by_cases h1 : k1 = 0
      · subst h1
        obtain rfl : k3 = k2 := by
          by_cases h3 : k3 = 0
          · rw [if_pos h3] at hk; exact absurd hk h2
          · rw [if_neg h3] at hk; exact hk.symm
        have t2 : (k3 == k3) = true := by simp
        clear hk hk1 hk2 hk3
        go_enter Try.func4, Try.ntmps4
        go_wp2_with fail
        refine (sane_any _).mono ?_
        rintro e w1 ⟨rfl, hB1⟩
        have b0 : Blk w1 w.heap.size 23 #[.int .i64 i.1, .int .i64 i.2] := (Blk.new w _ _).below hB1
        have H1 := Lib.hid (slUp hB1 (slAl H.out _))
        have hBa := bAfter (bAl (Below.refl _ w) _) hB1
        clear hB1 H
        go_wp2_with fail
        refine (Union_c _ l _ H1.out (by omega)).mono ?_
        rintro e w2 ⟨v2, rfl, _, hB2⟩
        rw [HK1.out]
        replace b0 := bk hB2 b0
        have H2 := Lib.hid (slUp hB2 H1.out)
        replace hBa := bAfter hBa hB2
        clear hB2 H1
        obtain ⟨a0, a1⟩ := cells2 b0
        go_wp2_with fail
        refine (Without_c i _ l _ H2.out (by omega)).mono ?_
        rintro e w3 ⟨v3, rfl, _, hB3⟩
        rw [HK2.out]
        replace b0 := bk hB3 b0
        replace hBa := bAfter hBa hB3
        clear hB3 H2 a0 a1
        obtain ⟨a0, a1⟩ := cells2 b0
        go_wp2_with fail
        refine (check_eq i _ HK3.out).mono ?_
        rintro e w4 ⟨rfl, hB4⟩
        go_wp2_with fail
        go_ret
        exact ⟨rfl, bAfter hBa hB4⟩
      · have hn1 := neq_int_true h1
        have hn1' : (k1 == 0) = false := beq_eq_false_iff_ne.2 h1
        by_cases h21 : k2 = k1
        · subst h21
          have t2 : (k2 == k2) = true := by simp
          clear hk hk1 hk2 hk3
          go_enter Try.func4, Try.ntmps4
          go_wp2_with fail
          refine (sane_any _).mono ?_
          rintro e w1 ⟨rfl, hB1⟩
          have b0 : Blk w1 w.heap.size 23 #[.int .i64 i.1, .int .i64 i.2] := (Blk.new w _ _).below hB1
          have H1 := Lib.hid (slUp hB1 (slAl H.out _))
          have hBa := bAfter (bAl (Below.refl _ w) _) hB1
          clear hB1 H
          go_wp2_with fail
          refine (Union_c _ l _ H1.out (by omega)).mono ?_
          rintro e w2 ⟨v2, rfl, _, hB2⟩
          rw [HK1.out]
          replace b0 := bk hB2 b0
          have H2 := Lib.hid (slUp hB2 H1.out)
          replace hBa := bAfter hBa hB2
          clear hB2 H1
          obtain ⟨a0, a1⟩ := cells2 b0
          go_wp2_with fail
          refine (Without_c i _ l _ H2.out (by omega)).mono ?_
          rintro e w3 ⟨v3, rfl, _, hB3⟩
          rw [HK2.out]
          replace b0 := bk hB3 b0
          replace hBa := bAfter hBa hB3
          clear hB3 H2 a0 a1
          obtain ⟨a0, a1⟩ := cells2 b0
          go_wp2_with fail
          go_ret
          exact ⟨rfl, hBa⟩
        · have hn21 : (k2 == k1) = false := beq_eq_false_iff_ne.2 h21
          obtain rfl : k3 = k2 := by
            by_cases h3 : k3 = 0
            · rw [if_pos h3] at hk; exact absurd hk h21
            · rw [if_neg h3] at hk; exact hk.symm
          have t2 : (k3 == k3) = true := by simp
          clear hk hk1 hk2 hk3
          go_enter Try.func4, Try.ntmps4
          go_wp2_with fail
          refine (sane_any _).mono ?_
          rintro e w1 ⟨rfl, hB1⟩
          have b0 : Blk w1 w.heap.size 23 #[.int .i64 i.1, .int .i64 i.2] := (Blk.new w _ _).below hB1
          have H1 := Lib.hid (slUp hB1 (slAl H.out _))
          have hBa := bAfter (bAl (Below.refl _ w) _) hB1
          clear hB1 H
          go_wp2_with fail
          refine (Union_c _ l _ H1.out (by omega)).mono ?_
          rintro e w2 ⟨v2, rfl, _, hB2⟩
          rw [HK1.out]
          replace b0 := bk hB2 b0
          have H2 := Lib.hid (slUp hB2 H1.out)
          replace hBa := bAfter hBa hB2
          clear hB2 H1
          obtain ⟨a0, a1⟩ := cells2 b0
          go_wp2_with fail
          refine (Without_c i _ l _ H2.out (by omega)).mono ?_
          rintro e w3 ⟨v3, rfl, _, hB3⟩
          rw [HK2.out]
          replace b0 := bk hB3 b0
          replace hBa := bAfter hBa hB3
          clear hB3 H2 a0 a1
          obtain ⟨a0, a1⟩ := cells2 b0
          go_wp2_with fail
          refine (check_eq i _ HK3.out).mono ?_
          rintro e w4 ⟨rfl, hB4⟩
          go_wp2_with fail
          go_ret
          exact ⟨rfl, bAfter hBa hB4⟩

set_option maxRecDepth 100000 in
theorem intervalPoints_lifted (os : Os) (started : os.Started) (H : Type) (enc : TypeId × Value → H) :
    ReturnsInHanded {} Try.checked os 4 .any (Rows.intervalPointsSpec.pre6 enc Try.prog Try.f4 Rows.intervalPointsRow.domain false) (Rows.intervalPointsSpec.post enc Try.prog Try.f4 false true false false) := by
  refine returnsInHanded_of_change (C := Try.checked) own started (by kernel_rfl) Try.func4
    (ChangeSpec.witness6 (enc := enc) (C := Try.checked) false ⟨#[], #[.int .i64 0, .agg #[.int .i64 0, .int .i64 0], .slice none 0 0], []⟩ 8 (by kernel_rfl) (by kernel_rfl) (by kernel_rfl) (by kernel_rfl)) ?_
  intro W base args ds gs before hval0 hW hcnd _
  have hval : ∀ (j : Nat) t v, Try.f4.params[j]? = some t → args[j]? = some v → Value.okWide Try.prog W .any base t v := hval0
  have hW' := hW
  obtain ⟨p, q, hA0, hV, rfl, hfz, hnd⟩ := hW
  have hA : DataW.TrodAll enc Try.prog W 0 (fun _ => true) true Try.f4.params.toList args.toList ds p := hA0
  rw [Try.params4] at hA hval
  obtain ⟨v0, vs0, d0, ds0, p0, q0, hargs, rfl, rfl, h0, r0⟩ := trodAll_cons hA
  obtain ⟨v1, vs1, d1, ds1, p1, q1, rfl, rfl, rfl, h1, r1⟩ := trodAll_cons r0
  obtain ⟨v2, vs2, d2, ds2, p2, q2, rfl, rfl, rfl, h2, r2⟩ := trodAll_cons r1
  obtain ⟨rfl, rfl, rfl⟩ := trodAll_nil r2
  obtain rfl : args = #[v0, v1, v2] := by cases args; simp_all
  obtain ⟨rfl, rfl⟩ := trodVars_none hV
  have k0 := h0
  have lt0 : ∀ x ∈ p0, x.block < W.heap.size := by obtain ⟨m, hm⟩ := k0; exact DataW.trod_lt m _ _ _ hm
  obtain ⟨a0, rfl, _, _, w0⟩ := open_int Try.underlying3 (hval 0 3 v0 rfl rfl) h0
  have k1 := h1
  have lt1 : ∀ x ∈ p1, x.block < W.heap.size := by obtain ⟨m, hm⟩ := k1; exact DataW.trod_lt m _ _ _ hm
  obtain ⟨a1, rfl⟩ := open_iv (hval 1 23 v1 rfl rfl) h1
  have k2 := h2
  have lt2 : ∀ x ∈ p2, x.block < W.heap.size := by obtain ⟨m, hm⟩ := k2; exact DataW.trod_lt m _ _ _ hm
  obtain ⟨a2, s2⟩ := open_ivs (hval 2 24 v2 rfl rfl) h2
  clear hA0 hval0
  refine (points_any a0 a1 v2 a2 W w0 s2).mono fun e W' ⟨he, bel⟩ => ?_
  subst he
  exact ⟨_, rfl, _, _, _, [], _, [], hW', trodAll_mk1 (shut_bool Try.underlying4 _), (trodAll_cons_mk (Below.trod laidOut (by kernel_rfl) (of_decide_eq_true (by kernel_rfl)) k0 bel lt0) (trodAll_cons_mk (Below.trod laidOut (by kernel_rfl) (of_decide_eq_true (by kernel_rfl)) k1 bel lt1) (trodAll_cons_mk (Below.trod laidOut (by kernel_rfl) (of_decide_eq_true (by kernel_rfl)) k2 bel lt2) trodAll_mk0))), rfl, bel.frame _, fun h => by cases h⟩

theorem intervalPoints_holds : Rows.IntervalPointsSaid :=
  OpenClaim.holds_of_wide 4 Try.f4 rfl rfl rfl rfl rfl rfl rfl ⟨rfl, rfl, rfl, rfl, rfl⟩ rfl rfl rfl rfl rfl (by kernel_rfl) Try.func4 (by kernel_rfl)
    (of_decide_eq_true (by kernel_rfl)) (by unfold Func.isWrapper; first | (rw [if_pos (by decide +kernel)]; kernel_rfl) | (rw [if_neg (by decide +kernel)]; exact ⟨rfl, rfl⟩))
    (fun os started H enc _ => intervalPoints_lifted os started H enc)
end Go.Proofs.Ytidaklcinddghaa
