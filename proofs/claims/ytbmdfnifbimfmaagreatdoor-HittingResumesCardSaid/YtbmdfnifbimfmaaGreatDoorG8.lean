/- The walk of All. -/
import Derived.Test.YtbmdfnifbimfmaaGreatDoorG7
namespace Go.Proofs.YtbmdfnifbimfmaaGreatDoor
open Go.RowKit Go.Shelf
attribute [local go_sem] Oper.semAt_some

theorem OwnP.to {W W' : World} {B : Nat} {v : Value} {ps : List (Value × List Int)} (h : OwnP W B v ps) (hs : W.heap.size ≤ W'.heap.size) (hk : ∀ k o, B ≤ k → W.heap[k]? = some o → o.isCells = true → W'.heap[k]? = some o) (hn : ∀ p ∈ ps, NewB B p.1) : SS W' v (ps.map (·.2)) := by
  refine ⟨ps, rfl, own_S1 (own_block h.1 fun g hg => ?_), fun p hp => (h.2 p hp).1.block hs fun a n c e hn' => ?_⟩
  · obtain ⟨cs, hcs⟩ := own_obj h.1 hg
    rw [hcs]; exact hk g _ (h.1.lt g hg).1 hcs rfl
  · obtain ⟨o, ho, hc⟩ := (h.2 p hp).1.obj e hn'
    rw [ho]; exact hk _ o (hn p hp a n c e hn') ho hc
theorem all_done {L : List (List Int)} {S : List (List Int)} (hv : ValidAll L) (hS : IsMin L S) {ps qs : List (Value × List Int)} (ho : Outs S [] (fun _ => true) (ps.map (·.2))) (hp : qs.Perm ps) (hs : (qs.map (·.2)).Pairwise (fun a b => ¬ ltS b a)) : IsAll L (qs.map (·.2)) := by
  have hpm := hp.map (·.2)
  refine ⟨strict_of hs (hpm.nodup_iff.2 ho.1), fun T => ?_⟩
  rw [hpm.mem_iff, ho.2, qm_start, mhs_min hv hS]

set_option maxRecDepth 100000 in
set_option maxHeartbeats 8000000 in
theorem All_any (v : Value) (L : List (List Int)) (most : Int) (w : World) (h : SS w v L) (hl : L.length ≤ 900) (ht : Tab w) : Calls Tryz.prog 17 #[v, .int .i64 most] w (AllPost w L most) := by
  refine (callsIn_wide (n := 4)).1 ?_
  obtain ⟨W3, hW3⟩ : ∃ W3, ((w.alloc (.cells #[.int .i64 most] 3)).alloc (.cells #[.slice none 0 0] 22)).alloc (.cells #[.int .i64 0] 26) = W3 := ⟨_, rfl⟩
  have hb1 : Blk W3 w.heap.size 3 #[.int .i64 most] := by rw [← hW3]; exact ((Blk.new w 3 #[.int .i64 most]).alloc _).alloc _
  have hb2 : Blk W3 (w.heap.size + 1) 22 #[.slice none 0 0] := by rw [← hW3]; exact (Blk.newAt (w.alloc (.cells #[.int .i64 most] 3)) 22 #[.slice none 0 0] (by simp)).alloc _
  have hb3 : Blk W3 (w.heap.size + 1 + 1) 26 #[.int .i64 0] := by rw [← hW3]; exact Blk.newAt ((w.alloc (.cells #[.int .i64 most] 3)).alloc (.cells #[.slice none 0 0] 22)) 26 #[.int .i64 0] (by simp)
  have hBw : Below w.heap.size w W3 := by rw [← hW3]; exact (((Below.refl _ w).alloc (Nat.le_refl _) _).alloc (by simp) _).alloc (by simp; omega) _
  have hsz : W3.heap.size = w.heap.size + 1 + 1 + 1 := by rw [← hW3]; simp
  have hS3 := h.up hBw
  have hT3 := ht.up hBw
  obtain ⟨i0, hi, hz0, hz1, hz2⟩ := info_parts infoS
  have c1 : W3.cell? ⟨w.heap.size, 0, none⟩ = some (.int .i64 most) := hb1.cell 0
  have c2 : W3.cell? ⟨w.heap.size + 1, 0, none⟩ = some (.slice none 0 0) := hb2.cell 0
  have c3 : W3.cell? ⟨w.heap.size + 1 + 1, 0, none⟩ = some (.int .i64 0) := hb3.cell 0
  have f2 := hb2.frozen 0
  have f3 := hb3.frozen 0
  have HB1 := Lib.hid hb1
  have HB2 := Lib.hid hb2
  have HB3 := Lib.hid hb3
  have HBW := Lib.hid hBw
  have HS3 := Lib.hid hS3
  have HT3 := Lib.hid hT3
  clear h ht hb1 hb2 hb3 hBw hS3 hT3
  -- the refused way
  have bad : ¬ okMost L most → ∀ (a : Act), a.defers = [] → a.tmps.getD 4 undef = .pointer (some ⟨w.heap.size + 1, 0, none⟩) → a.tmps.getD 5 undef = .pointer (some ⟨w.heap.size + 1 + 1, 0, none⟩) →
      bodyPostM Fence.wide 4 Tryz.prog Tryz.f17 (AllPost w L most) .ret a ((W3.setCell ⟨w.heap.size + 1, 0, none⟩ (.slice none 0 0)).setCell ⟨w.heap.size + 1 + 1, 0, none⟩ (.int .i64 1)) := by
    intro hno a hd h4 h5
    have g2 : Blk ((W3.setCell ⟨w.heap.size + 1, 0, none⟩ (.slice none 0 0)).setCell ⟨w.heap.size + 1 + 1, 0, none⟩ (.int .i64 1)) (w.heap.size + 1) 22 #[.slice none 0 0] := by
      have := (HB2.out.set_ 0 (.slice none 0 0)).far (p := ⟨w.heap.size + 1 + 1, 0, none⟩) (by simp only; omega) (.int .i64 1)
      simpa using this
    have g3 : Blk ((W3.setCell ⟨w.heap.size + 1, 0, none⟩ (.slice none 0 0)).setCell ⟨w.heap.size + 1 + 1, 0, none⟩ (.int .i64 1)) (w.heap.size + 1 + 1) 26 #[.int .i64 1] := by
      have := (HB3.out.far (p := ⟨w.heap.size + 1, 0, none⟩) (by simp only; omega) (.slice none 0 0)).set_ 0 (.int .i64 1)
      simpa using this
    show LeavesInM _ _ _ _ _ _ a.defers _ _
    rw [hd]
    refine ⟨_, results_cells rfl _ _ h4 h5 (loadSS (g2.cell 0)) (loadErr (g3.cell 0)), ?_⟩
    exact ⟨_, [], 1, rfl, SS.nil _, (HBW.out.setCell (by simp only; omega) _).setCell (by simp only; omega) _, .inl ⟨hno, rfl, rfl⟩⟩
  have HBAD := Lib.hid bad
  clear bad
  refine callsIn_of_wp_marks Tryz.func17 rfl trivial ?_ rfl
  simp only [Tryz.ntmps17, List.size_toArray, List.length_cons, List.length_nil, Nat.reduceAdd, Nat.reduceSub, Array.replicate_succ, Array.replicate_zero, List.push_toArray, List.append_toArray, List.nil_append, List.cons_append]
  gi_wp2_with fail
  cases hval : bOf (ValidAll L) with
  | false =>
    have HV := Lib.hid hval
    clear hval
    refine ⟨trivial, ((callsIn_wide).2 (valid_eq _ L W3 HS3.out HV.out)).mono ?_⟩
    rintro e w1 ⟨rfl, rfl⟩
    gi_wp2_with fail
    exact HBAD.out (fun h => bOf_false_iff.1 HV.out h.1) _ rfl rfl rfl
  | true =>
    have HV := Lib.hid hval
    clear hval
    refine ⟨trivial, ((callsIn_wide).2 (valid_eq _ L W3 HS3.out HV.out)).mono ?_⟩
    rintro e w1 ⟨rfl, rfl⟩
    by_cases h1 : most < 0
    · gi_wp2_with fail
      exact HBAD.out (fun h => by have := h.2.1; omega) _ rfl rfl rfl
    · by_cases h2 : 256 < most
      · gi_wp2_with fail
        exact HBAD.out (fun h => by have := h.2.2; omega) _ rfl rfl rfl
      · have hok : okMost L most := ⟨bOf_iff.1 HV.out, by omega, by omega⟩
        have HOK := Lib.hid hok
        clear hok HBAD
        gi_wp2_with fail
        refine ⟨trivial, ((callsIn_wide).2 (newFamily_any _ L W3 HS3.out HOK.out.1 hl HT3.out)).mono ?_⟩
        rintro e w4 ⟨K, rfl, hk0, hk1, hmin, hF, hB4⟩
        have HK0 := Lib.hid hk0
        have HK1 := Lib.hid hk1
        have HMIN := Lib.hid hmin
        have HF := Lib.hid hF
        have HB4 := Lib.hid hB4
        clear hk0 hk1 hmin hF hB4
        gi_wp2_with fail
        refine ⟨trivial, ((callsIn_wide).2 (hitting_any K w4)).mono ?_⟩
        rintro e w5 ⟨rfl, rfl⟩
        gi_wp2_with fail
        have hszb := hsz
        have hrng := HF.out.1.rng
        have hra := HF.out.1.ra
        have hk0 : K.base0 ≤ W3.heap.size ∧ W3.heap.size ≤ K.base0 := by have := HK0.out; omega
        have hk1 : K.base ≤ w4.heap.size ∧ w4.heap.size ≤ K.base := by have := HK1.out; omega
        obtain ⟨W5, hW5⟩ : ∃ W5, w4.alloc (.cells #[K.p] 51) = W5 := ⟨_, rfl⟩
        have hB5 : Below w4.heap.size w4 W5 := by rw [← hW5]; exact (Below.refl _ _).alloc (Nat.le_refl _) _
        have hx5 : W5.cell? ⟨w4.heap.size, 0, none⟩ = some K.p := by rw [← hW5, cell_alloc_new]; rfl
        have hs5 : W5.heap.size ≤ w4.heap.size + 1 ∧ w4.heap.size + 1 ≤ W5.heap.size := by rw [← hW5]; simp
        have hF5 := HF.out.up hB5
        have hI0 : AllI w K most [] W5 := by
          refine ⟨bAfter (bAfter HBW.out HB4.out) hB5, (HB1.out.below HB4.out).below hB5, (HB3.out.below HB4.out).below hB5, by simp; omega, by omega, .slice none 0 0, (HB2.out.below HB4.out).below hB5, OwnP.nil _ _, fun _ h => (nomatch h), fun _ h => by cases h⟩
        rw [hW5]
        have HI0 := Lib.hid hI0
        have HF5 := Lib.hid hF5.1
        clear hI0 hF5 hB5 c1 c2 c3 f2 f3
        refine range_fam K w4.heap.size (by omega) rfl rfl HF5.out hx5 (AllI w K most) (AllIx w K most) (AllI.own (by omega) (by omega) (by omega) (by omega)) (AllIx.own (by omega)) (AllI.it (by omega)) (AllIx.it (by omega)) HI0.out
          (fun u => { tmps := #[v, .int .i64 most, undef, .pointer (some ⟨w.heap.size, 0, none⟩), .pointer (some ⟨w.heap.size + 1, 0, none⟩), .pointer (some ⟨w.heap.size + 1 + 1, 0, none⟩), u, v, .bool true, .bool false,
            .bool false, .int .i64 most, .bool (decide (most < 0)), .bool (decide (most < 0)), .bool (decide (most < 0)), .int .i64 most, .bool (decide (256 < most)), .bool (decide (most < 0) || decide (256 < most)), v, K.p,
            .func (.func 51) #[] #[.pointer (some ⟨w4.heap.size, 0, none⟩)], u, undef, undef, undef, undef, undef, undef, undef, undef, undef, undef, undef], defers := [] })
          ?assign ?body ?done ?stop
        case assign =>
          intro lp u W K' hK
          gi_wp2
          exact hK
        case body =>
          intro lp pre u T W hlp hI hL hT hnl
          obtain ⟨vx, r1, r2, _⟩ := hI.row
          obtain ⟨Ax, cx, hvx⟩ := own_form r2.1
          have d1 : W.cell? ⟨w.heap.size, 0, none⟩ = some (.int .i64 most) := hI.b1.cell 0
          have d2 : W.cell? ⟨w.heap.size + 1, 0, none⟩ = some vx := r1.cell 0
          have f2 := r1.frozen 0
          have d3 : W.cell? ⟨w.heap.size + 1 + 1, 0, none⟩ = some (.int .i64 0) := hI.b3.cell 0
          have f3 := hI.b3.frozen 0
          have HI := Lib.hid hI
          have HL := Lib.hid hL
          have HNL := Lib.hid hnl
          have HR2 := Lib.hid r2.1
          have hpl := hI.cnt
          have hbig := hI.big
          clear hI hL hnl r1 r2
          subst hvx
          by_cases he : (pre.length : Int) = most
          · have HLIM := Lib.hid (HI.out.limit he (by omega) (by omega) W5.heap.size (u, T))
            gi_wp2_with fail
            exact HLIM.out
          · obtain ⟨Au, cu, hu⟩ := own_form HL.out.1
            subst hu
            gi_wp2_with (gi_at_builtin; refine wpListIn_append_own_at _ rfl _ _ 22 rfl K.base 23 i0 (.slice none 0 0) 1 24 Tryz.underlying22 hi hz0 hz1 hz2 rfl (by decide) _ _ _ rfl (HR2.out.alloc _) ⟨W.heap.size, 0, none⟩ 1 1 [.slice Au T.length cu] rfl rfl ?c1 ?c2 ?c3 ?c4 ?c5 ?_)
            case c1 => exact new1 _ _ rfl _ _
            case c2 => exact one_of_form ⟨_, _, _, rfl⟩
            case c3 => simp only [maxLen]; omega
            case c4 => omega
            case c5 => simp; omega
            intro v4 W4 hown hgrow _ hat
            obtain ⟨A4, c4, hf4⟩ := own_form hown
            subst hf4
            obtain ⟨⟨e1, e2⟩, hkf, hkp, hI4⟩ := HI.out.snoc (by omega) (by omega) (by omega) hra W5.heap.size HL.out HNL.out d2 rfl rfl hown hgrow (by simpa using hat)
            have HPO := Lib.hid (And.intro hkf (And.intro hkp hI4))
            clear hkf hkp hI4 hown hgrow hat
            gi_wp2_with fail
            exact HPO.out
        case done =>
          intro D ys W hD hO hI hK
          obtain ⟨vx, r1, r2, r3, _⟩ := hI.row
          obtain ⟨Ax, cx, hvx⟩ := own_form r2.1
          subst hvx
          have d2 : W.cell? ⟨w.heap.size + 1, 0, none⟩ = some (.slice Ax ys.length cx) := r1.cell 0
          have hpl := hI.cnt
          have HI := Lib.hid hI
          have HR3 := Lib.hid r3
          have HO := Lib.hid hO
          have HR1 := Lib.hid r1
          have HR2 := Lib.hid r2
          clear hI hO r1 r2 r3
          gi_wp2_with fail
          refine ⟨trivial, ((callsIn_wide).2 (sortSS_any K.base _ ys W HR2.out (by omega))).mono ?_⟩
          rintro e w6 ⟨rfl, qs, hp, hs, ho, hg⟩
          have hne : ∀ k, k < K.base → some k ≠ (Value.slice Ax ys.length cx).ownBlock := fun k hk e => by have := (HR2.out.1.lt k e.symm).1; omega
          have hb2' := HR1.out.block (hg.block _ HR1.out.lt (hne _ (by omega)))
          have hb3' := HI.out.b3.block (hg.block _ HI.out.b3.lt (hne _ (by omega)))
          have hBl : Below w.heap.size w w6 := HI.out.low.grown hg HI.out.low.size (fun k e => by have := (HR2.out.1.lt k e).1; omega)
          have e2 : w6.cell? ⟨w.heap.size + 1, 0, none⟩ = some (.slice Ax ys.length cx) := hb2'.cell 0
          have e3 : w6.cell? ⟨w.heap.size + 1 + 1, 0, none⟩ = some (.int .i64 0) := hb3'.cell 0
          have g2 := hb2'.frozen 0
          have g3 := hb3'.frozen 0
          have hKD : w6.heap[D]? = some (.deferred (some [])) := (hg.block D (Array.getElem?_eq_some_iff.1 hK).1 fun e => by
            obtain ⟨cs, hcs⟩ := own_obj HR2.out.1 e.symm
            rw [hK] at hcs; cases hcs).trans hK
          have HP := Lib.hid hp
          have HS' := Lib.hid hs
          have HQ := Lib.hid ho
          have HBL := Lib.hid hBl
          have HB2' := Lib.hid hb2'
          have HB3' := Lib.hid hb3'
          have HKD := Lib.hid hKD
          clear hp hs ho hg hb2' hb3' hBl hKD hK
          gi_wp2_with fail
          obtain ⟨W7, hW7⟩ : ∃ W7, (w6.setCell ⟨w.heap.size + 1, 0, none⟩ (.slice Ax ys.length cx)).setCell ⟨w.heap.size + 1 + 1, 0, none⟩ (.int .i64 0) = W7 := ⟨_, rfl⟩
          have hk7 : ∀ k, K.base ≤ k → W7.heap[k]? = w6.heap[k]? := fun k hk => by rw [← hW7]; exact (heap_set_ne _ _ _ (by simp only; omega)).trans (heap_set_ne _ _ _ (by simp only; omega))
          have hD7 : W7.heap[D]? = some (.deferred (some [])) := (hk7 D (by omega)).trans HKD.out
          have hB7 : Below w.heap.size w W7 := by rw [← hW7]; exact (HBL.out.setCell (by simp only; omega) _).setCell (by simp only; omega) _
          have hs7 : W7.heap.size = w6.heap.size := by rw [← hW7, size_set, size_set]
          have h27 : Blk W7 (w.heap.size + 1) 22 #[.slice Ax ys.length cx] := by
            rw [← hW7]
            have := (HB2'.out.set_ 0 (.slice Ax ys.length cx)).far (p := ⟨w.heap.size + 1 + 1, 0, none⟩) (by simp only; omega) (.int .i64 0)
            simpa using this
          have h37 : Blk W7 (w.heap.size + 1 + 1) 26 #[.int .i64 0] := by
            rw [← hW7]
            have := (HB3'.out.far (p := ⟨w.heap.size + 1, 0, none⟩) (by simp only; omega) (.slice Ax ys.length cx)).set_ 0 (.int .i64 0)
            simpa using this
          rw [hW7]
          refine ⟨by simp, .inl ⟨_, _, rfl, run_takeDeferred hD7, ?_⟩⟩
          have h28 := h27.block (World.putObj_heap_other (w := W7) (r := D) (o := .deferred none) (k := w.heap.size + 1) (by omega))
          have h38 := h37.block (World.putObj_heap_other (w := W7) (r := D) (o := .deferred none) (k := w.heap.size + 1 + 1) (by omega))
          refine ⟨_, results_cells rfl _ _ rfl rfl (loadSS (h28.cell 0)) (loadErr (h38.cell 0)), ?_⟩
          refine ⟨_, qs.map (·.2), 0, rfl, ?_, ?_, .inr (.inl ⟨HOK.out, all_done HOK.out.1 HMIN.out HO.out HP.out HS'.out, ?_, rfl⟩)⟩
          · refine HQ.out.to (by simp [World.putObj]; omega) (fun k o hk ho hc => ?_) (fun p hp => (HR3.out p (HP.out.mem_iff.1 hp)).1)
            refine (World.putObj_heap_other (fun e => ?_)).trans ((hk7 k hk).trans ho)
            subst e
            rw [HKD.out] at ho; injection ho with ho; subst ho; cases hc
          · exact hB7.trans (belowK_b (w := w) (Nat.le_refl _) W7 D _ _ (by omega) hD7 rfl rfl)
          · rw [List.length_map, HP.out.length_eq]; exact hpl
        case stop =>
          intro D c ys W hD hP hX hK
          have hc : c = .ret := by
            cases c with
            | ret => rfl
            | _ => exact hX.elim
          subst hc
          have hX' : AllX w K most ys W := hX
          have HX := Lib.hid hX'
          have HP := Lib.hid hP
          clear hX hX' hP
          gi_wp2_with fail
          refine ⟨by simp, .inl ⟨_, _, rfl, run_takeDeferred hK, ?_⟩⟩
          have h28 := HX.out.b2.block (World.putObj_heap_other (w := W) (r := D) (o := .deferred none) (k := w.heap.size + 1) (by omega))
          have h38 := HX.out.b3.block (World.putObj_heap_other (w := W) (r := D) (o := .deferred none) (k := w.heap.size + 1 + 1) (by omega))
          refine ⟨_, results_cells rfl _ _ rfl rfl (loadSS (h28.cell 0)) (loadErr (h38.cell 0)), ?_⟩
          refine ⟨_, [], 2, rfl, SS.nil _, ?_, .inr (.inr ⟨HOK.out, rfl, rfl, ys.map (·.2), HP.out.1, fun T hT => ?_, ?_⟩)⟩
          · exact HX.out.low.trans (belowK_b (w := w) (Nat.le_refl _) W D _ _ (by omega) hK rfl rfl)
          · exact (mhs_min HOK.out.1 HMIN.out T).1 (HP.out.2 T hT).1
          · rw [List.length_map]; exact HX.out.cnt
end Go.Proofs.YtbmdfnifbimfmaaGreatDoor
