/- Walks: Give. -/
import Derived.Test.YtbmdfnifbimfmaaGreatDoorC8
namespace Go.Proofs.YtbmdfnifbimfmaaGreatDoor
open Go.RowKit Go.Shelf
attribute [local go_sem] Oper.semAt_some

theorem GI.rows {w W W' : World} {old : Array Value} {spv : Int} {vF vO : Value} {psF ys : List (Value × List Int)} (h : GI w old spv vF psF vO ys W) (hs : W.heap.size ≤ W'.heap.size) (hk : ∀ k, k ≠ w.heap.size + 1 → W'.heap[k]? = W.heap[k]?) : SS W' vF (psF.map (·.2)) ∧ SS W' vO (ys.map (·.2)) := by
  have key : ∀ {v : Value} {ps : List (Value × List Int)}, OwnP W (w.heap.size + 2) v ps → (∀ p ∈ ps, Apart p.1 (some (w.heap.size + 1))) → SS W' v (ps.map (·.2)) := fun h ha =>
    ⟨_, rfl, own_S1 (own_block h.1 fun g hg => hk g (by have := (h.1.lt g hg).1; omega)), fun p hp => (h.2 p hp).1.block hs fun a n c e hn => hk _ fun e' => ha p hp a n c e hn (by rw [e'])⟩
  exact ⟨key h.rF fun p hp => (h.aF p hp).2, key h.rO h.aO⟩
theorem give_fin {w W : World} {old : Array Value} {spv : Int} {vF vO : Value} {psF ys : List (Value × List Int)} (h : GI w old spv vF psF vO ys W) (b : Bool) :
    Blk (set4 (W.setCell ⟨w.heap.size + 1, 3, none⟩ (.bool b)) (w.heap.size + 1) vF vO (.int .i64 spv) (.bool b)) (w.heap.size + 1) 36 #[vF, vO, .int .i64 spv, .bool b] ∧
      (SS (set4 (W.setCell ⟨w.heap.size + 1, 3, none⟩ (.bool b)) (w.heap.size + 1) vF vO (.int .i64 spv) (.bool b)) vF (psF.map (·.2)) ∧ SS (set4 (W.setCell ⟨w.heap.size + 1, 3, none⟩ (.bool b)) (w.heap.size + 1) vF vO (.int .i64 spv) (.bool b)) vO (ys.map (·.2))) ∧
      Below w.heap.size w (set4 (W.setCell ⟨w.heap.size + 1, 3, none⟩ (.bool b)) (w.heap.size + 1) vF vO (.int .i64 spv) (.bool b)) :=
  ⟨set4_blk (h.b1.set_ 3 (.bool b)) rfl, h.rows (by rw [set4_size, size_set]; exact Nat.le_refl _) (fun k hk => (set4_ne hk).trans (heap_set_ne _ _ _ hk)), set4_below (h.low.setCell (by simp only; omega) _) (by omega)⟩

set_option maxRecDepth 100000 in
set_option maxHeartbeats 8000000 in
theorem Give_none (v tv : Value) (s : Sr) (t : List Int) (w : World) (h : SrV w v s) (ht : SI w tv t) (hwt : ∀ x ∈ t, wfI x) (htl : t.length ≤ 100000) (hlF : s.F.length ≤ 100000) (hlO : s.O.length ≤ 100000) (hT : Tab w) :
    Calls Tryz.prog 19 #[v, tv, .bool true] w (GivePost w s t true) := by
  obtain ⟨vF, vO, rfl, hF, hO⟩ := h
  obtain ⟨AF, cF, rfl, _, _, hAF⟩ := hF.form
  obtain ⟨AO, cO, rfl, _, _, hAO⟩ := hO.form
  obtain ⟨At, ct, rfl⟩ := SI.slice_form ht
  obtain ⟨W2, hW2⟩ : ∃ W2, (w.alloc (.cells #[.slice AF s.F.length cF, .slice AO s.O.length cO, .int .i64 s.sp, .bool s.dn] 36)).alloc (.cells #[.slice none 0 0, .slice none 0 0, .int .i64 0, .bool false] 36) = W2 := ⟨_, rfl⟩
  have hB2 : Below w.heap.size w W2 := by rw [← hW2]; exact ((Below.refl _ _).alloc (Nat.le_refl _) _).alloc (by simp) _
  have hb1 : Blk W2 w.heap.size 36 #[.slice AF s.F.length cF, .slice AO s.O.length cO, .int .i64 s.sp, .bool s.dn] := by rw [← hW2]; exact (Blk.new _ _ _).alloc _
  have hb2 : Blk W2 (w.heap.size + 1) 36 #[.slice none 0 0, .slice none 0 0, .int .i64 0, .bool false] := by rw [← hW2]; exact Blk.newAt _ _ _ (by simp)
  have hsz : W2.heap.size ≤ w.heap.size + 1 + 1 ∧ w.heap.size + 1 + 1 ≤ W2.heap.size := by rw [← hW2]; simp
  have c0 : W2.cell? ⟨w.heap.size, 0, none⟩ = some (.slice AF s.F.length cF) := hb1.cell 0
  have c1 : W2.cell? ⟨w.heap.size, 1, none⟩ = some (.slice AO s.O.length cO) := hb1.cell 1
  have c2 : W2.cell? ⟨w.heap.size, 2, none⟩ = some (.int .i64 s.sp) := hb1.cell 2
  have c3 : W2.cell? ⟨w.heap.size, 3, none⟩ = some (.bool s.dn) := hb1.cell 3
  have hwl : w.heap.size < W2.heap.size := hb1.lt
  have HSV : Hid (SrV W2 (.agg #[.slice AF s.F.length cF, .slice AO s.O.length cO, .int .i64 s.sp, .bool s.dn]) s) := Lib.hid ⟨_, _, rfl, hF.up hB2, hO.up hB2⟩
  have HF := Lib.hid hF
  have HO := Lib.hid hO
  have HT := Lib.hid (hT.up hB2)
  have HTI := Lib.hid (ht.up hB2)
  have HB := Lib.hid hB2
  have HB1 := Lib.hid hb1
  have HB2 := Lib.hid hb2
  have HWT := Lib.hid hwt
  clear hF hO hAF hAO hB2 hb1 hb2 ht hwt hT
  refine (callsIn_wide (n := 4)).1 ?_
  refine callsIn_of_wp_marks Tryz.func19 rfl trivial ?_ rfl
  simp only [Tryz.ntmps19, List.size_toArray, List.length_cons, List.length_nil, Nat.reduceAdd, Nat.reduceSub, Array.replicate_succ, Array.replicate_zero, List.push_toArray, List.append_toArray, List.nil_append, List.cons_append]
  refine wpIn_wide.2 ?_
  go_wp2_with fail
  refine (Check_any _ s W2 HSV.out (by omega) (by omega) HT.out).mono ?_
  rintro e w3 ⟨rfl, hB3⟩
  have HB3 := Lib.hid hB3
  have HBW3 := Lib.hid (bAfter HB.out hB3)
  have d0 : w3.cell? ⟨w.heap.size, 0, none⟩ = some (.slice AF s.F.length cF) := (hB3.cell (p := ⟨w.heap.size, 0, none⟩) hwl).trans c0
  have d1 : w3.cell? ⟨w.heap.size, 1, none⟩ = some (.slice AO s.O.length cO) := (hB3.cell (p := ⟨w.heap.size, 1, none⟩) hwl).trans c1
  have d2 : w3.cell? ⟨w.heap.size, 2, none⟩ = some (.int .i64 s.sp) := (hB3.cell (p := ⟨w.heap.size, 2, none⟩) hwl).trans c2
  have HBB1 := Lib.hid (HB1.out.below hB3)
  have HBB2 := Lib.hid (HB2.out.below hB3)
  have hsz3 := hB3.size
  clear hB3 c0 c1 c2 c3
  have g0 : w3.cell? ⟨w.heap.size + 1, 0, none⟩ = some (.slice none 0 0) := HBB2.out.cell 0
  have g1 : w3.cell? ⟨w.heap.size + 1, 1, none⟩ = some (.slice none 0 0) := HBB2.out.cell 1
  have g2 : w3.cell? ⟨w.heap.size + 1, 2, none⟩ = some (.int .i64 0) := HBB2.out.cell 2
  have g3 : w3.cell? ⟨w.heap.size + 1, 3, none⟩ = some (.bool false) := HBB2.out.cell 3
  have k0 := HBB2.out.frozen 0
  have k1 := HBB2.out.frozen 1
  have k2 := HBB2.out.frozen 2
  have k3 := HBB2.out.frozen 3
  cases hok : bOf (SrOk s) with
  | false =>
    have HN := Lib.hid (bOf_false_iff.1 hok)
    clear hok
    go_wp2_with fail
    exact give_out (set4_blk HBB2.out rfl) rfl (SS.nil _) (SS.nil _) (set4_below HBW3.out (by omega)) (.inl ⟨.inl HN.out, rfl, rfl⟩) (s' := noSr) rfl rfl rfl
  | true =>
    have HOK := Lib.hid (bOf_iff.1 hok)
    clear hok
    have hsp : s.sp < 2000000000 := by have := HOK.out.sp; omega
    by_cases hO0 : s.O.length = 0
    · have q : ((s.O.length : Int) == 0) = true := by simp [hO0]
      have H0 := Lib.hid hO0
      clear hO0
      go_wp2_with fail
      exact give_out (set4_blk HBB2.out rfl) rfl (SS.nil _) (SS.nil _) (set4_below HBW3.out (by omega)) (.inl ⟨.inr (.inl H0.out), rfl, rfl⟩) (s' := noSr) rfl rfl rfl
    · have q : ((s.O.length : Int) == 0) = false := by rw [beq_eq_false_iff_ne]; omega
      by_cases htp : 0 < t.length
      · have q2 : decide ((0 : Int) < (t.length : Int)) = true := by simp; omega
        go_wp2_with fail
        exact give_out (set4_blk HBB2.out rfl) rfl (SS.nil _) (SS.nil _) (set4_below HBW3.out (by omega)) (.inl ⟨.inr (.inr (.inl ⟨rfl, htp⟩)), rfl, rfl⟩) (s' := noSr) rfl rfl rfl
      · have hq : ¬ 0 < t.length := htp
        obtain ⟨psF, hpsF, hspF⟩ := HF.out
        obtain ⟨psO, hpsO, hspO⟩ := HO.out
        have hlpF : psF.length = s.F.length := by rw [← hpsF, List.length_map]
        have hlpO : psO.length = s.O.length := by rw [← hpsO, List.length_map]
        have hspO' := hspO.1
        rw [← hlpO] at hspO'
        obtain ⟨Ad, hrun1, hS1⟩ := cut_from uS zS hspO' (n := 1) (by omega)
        rw [hlpO] at hrun1
        obtain ⟨dO, hdO⟩ : ∃ dO, psO.drop 1 = dO := ⟨_, rfl⟩
        rw [hdO] at hS1
        have hdl : dO.length = s.O.length - 1 := by rw [← hdO, List.length_drop, hlpO]
        rw [hlpO] at hS1
        obtain ⟨m1, hm1⟩ : ∃ m1, s.O.length - 1 = m1 := ⟨_, rfl⟩
        rw [hm1] at hrun1 hS1 hdl
        obtain ⟨cO1, hcO1⟩ : ∃ cO1, cO - 1 = cO1 := ⟨_, rfl⟩
        rw [hcO1] at hrun1 hS1
        have hspO1 : SP w (.slice Ad m1 cO1) dO := ⟨hS1, fun p hp => hspO.2 p (by rw [← hdO] at hp; exact List.mem_of_mem_drop hp)⟩
        have HSO : Hid (SP W2 (.slice Ad m1 cO1) dO) := Lib.hid (hspO1.up HB.out)
        have HSF : Hid (SP W2 (.slice AF s.F.length cF) psF) := Lib.hid (hspF.up HB.out)
        have HAP : Hid ((∀ p ∈ psF, ∀ a n c, p.1 = .slice (some a) n c → 0 < n → a.block < w.heap.size) ∧ ∀ p ∈ dO, ∀ a n c, p.1 = .slice (some a) n c → 0 < n → a.block < w.heap.size) := Lib.hid ⟨fun p hp a n c e hn => (hspF.2 p hp).block_lt e hn, fun p hp a n c e hn => (hspO1.2 p hp).block_lt e hn⟩
        have HPSF := Lib.hid hpsF
        have HPSO := Lib.hid hpsO
        have HDO := Lib.hid hdO
        have HDL := Lib.hid (And.intro hdl hlpF)
        have hcw : ∀ W, (Instr.slice 22 (.slice AO s.O.length cO) (some (.int .i64 1)) none none).run Tryz.prog W = .ok (.slice Ad m1 cO1) W := hrun1
        clear hspO1 hpsF hspF hpsO hspO hlpF hlpO hspO' hS1 hdO hdl hrun1
        have HK : Hid (∀ W', Below w3.heap.size w3 W' → (W'.cell? ⟨w.heap.size, 0, none⟩ = some (.slice AF s.F.length cF) ∧ W'.cell? ⟨w.heap.size, 1, none⟩ = some (.slice AO s.O.length cO) ∧ W'.cell? ⟨w.heap.size, 2, none⟩ = some (.int .i64 s.sp)) ∧
            SP W' (.slice AF s.F.length cF) psF ∧ SP W' (.slice Ad m1 cO1) dO) := Lib.hid fun W' hB' =>
          ⟨⟨((HBB1.out.below hB').cell 0), ((HBB1.out.below hB').cell 1), ((HBB1.out.below hB').cell 2)⟩, (HSF.out.up HB3.out).up hB', (HSO.out.up HB3.out).up hB'⟩
        have HK2 : Hid (∀ W', Below w3.heap.size w3 W' → Blk W' (w.heap.size + 1) 36 #[.slice none 0 0, .slice none 0 0, .int .i64 0, .bool false]) := Lib.hid fun W' hB' => HBB2.out.below hB'
        have HL1 : Hid (psF.length ≤ 1000000 ∧ dO.length ≤ 1000000) := Lib.hid (by have := HDL.out; omega)
        have hB30 : Below w3.heap.size w3 w3.drew := (Below.refl _ _).drew
        have hD0 : w3.drew.cell? ⟨w.heap.size, 0, none⟩ = some (.slice AF s.F.length cF) ∧ w3.drew.cell? ⟨w.heap.size, 1, none⟩ = some (.slice AO s.O.length cO) ∧ w3.drew.cell? ⟨w.heap.size, 2, none⟩ = some (.int .i64 s.sp) := ⟨d0, d1, d2⟩
        have HNE1 : Hid (w.heap.size ≠ w.heap.size + 1) := Lib.hid (by omega)
        have hwr : IntKind.i64.wrap (s.sp + 1) = s.sp + 1 := IntWalk.i64_in _ (by have := HOK.out.sp; omega)
        have q2 : decide ((0 : Int) < (t.length : Int)) = false := decide_eq_false (by omega)
        have q2' : decide (0 < t.length) = false := decide_eq_false (by omega)
        go_wp2_with fail
        go_region_held3 (fun W => W.cell? ⟨w.heap.size, 0, none⟩ = some (.slice AF s.F.length cF) ∧ W.cell? ⟨w.heap.size, 1, none⟩ = some (.slice AO s.O.length cO) ∧ W.cell? ⟨w.heap.size, 2, none⟩ = some (.int .i64 s.sp)) (first | with_reducible exact hD0 | with_reducible exact (HK.out _ hBF').1 | with_reducible exact (HK.out _ hBO').1 | with_reducible exact keep4 HNE1.out (HK.out _ hBO').1 | with_reducible exact keep4 HNE1.out (HK.out _ hBF').1)
          (first
            | (go_at_call 38; with_reducible refine (cloneSS_any (.slice AF s.F.length cF) psF _ (HK.out _ (by first | exact hBO' | exact hB30)).2.1 HL1.out.1).mono ?_;
               rintro e wF ⟨vF', rfl, hoF, hBF⟩;
               have hBF' : Below w3.heap.size w3 wF := bAfter (by first | exact hBO' | exact hB30) hBF;
               obtain ⟨AF', cF', hfF⟩ := own_form hoF.1;
               subst hfF;
               have HOF := Lib.hid hoF;
               have HBF := Lib.hid hBF;
               have l0 := (HK2.out _ hBF').cell 0;
               have l1 := (HK2.out _ hBF').cell 1;
               have l2 := (HK2.out _ hBF').cell 2;
               have l3 := (HK2.out _ hBF').cell 3;
               have m0 := (HK2.out _ hBF').frozen 0;
               have m1' := (HK2.out _ hBF').frozen 1;
               have m2 := (HK2.out _ hBF').frozen 2;
               have m3 := (HK2.out _ hBF').frozen 3;
               clear hoF hBF)
            | (go_at_call 38; with_reducible refine (cloneSS_any (.slice Ad m1 cO1) dO _ (HK.out _ (by first | exact hBF' | exact hB30)).2.2 HL1.out.2).mono ?_;
               rintro e wO ⟨vO', rfl, hoO, hBO⟩;
               have hBO' : Below w3.heap.size w3 wO := bAfter (by first | exact hBF' | exact hB30) hBO;
               obtain ⟨AO', cO', hfO⟩ := own_form hoO.1;
               subst hfO;
               have HOO := Lib.hid hoO;
               have HBO := Lib.hid hBO;
               have l4 := (HK2.out _ hBO').cell 0;
               have l5 := (HK2.out _ hBO').cell 1;
               have l6 := (HK2.out _ hBO').cell 2;
               have l7 := (HK2.out _ hBO').cell 3;
               have m4 := (HK2.out _ hBO').frozen 0;
               have m5 := (HK2.out _ hBO').frozen 1;
               have m6 := (HK2.out _ hBO').frozen 2;
               have m7 := (HK2.out _ hBO').frozen 3;
               clear hoO hBO))
        rename_i K hK hH
        clear l0 l1 l2 l3 l4 l5 l6 l7 m0 m1' m2 m3 m4 m5 m6 m7 g0 g1 g2 g3 k0 k1 k2 k3 d0 d1 d2 hD0
        have hgi : GI w #[.slice AF s.F.length cF, .slice AO s.O.length cO, .int .i64 s.sp, .bool s.dn] (s.sp + 1) (.slice AF' psF.length cF') psF (.slice AO' dO.length cO') dO ((((wO.setCell ⟨w.heap.size + 1, 0, none⟩ (.slice AF' psF.length cF')).setCell ⟨w.heap.size + 1, 1, none⟩ (.slice AO' dO.length cO')).setCell ⟨w.heap.size + 1, 2, none⟩ (.int .i64 (s.sp + 1))).setCell ⟨w.heap.size + 1, 3, none⟩ (.bool false)) :=
          give_mid HOF.out HBF.out HOO.out HBO.out hBO' (by omega) (HBB1.out.below hBO') (HK2.out _ hBO') HBW3.out HAP.out
        have HGI := Lib.hid hgi
        clear hgi hH HOF HBF HOO HBO hBO' hBF' HK HK2 hB30
        refine hK _ _ ?_
        clear hK
        revert HGI
        generalize ((((wO.setCell ⟨w.heap.size + 1, 0, none⟩ (.slice AF' psF.length cF')).setCell ⟨w.heap.size + 1, 1, none⟩ (.slice AO' dO.length cO')).setCell ⟨w.heap.size + 1, 2, none⟩ (.int .i64 (s.sp + 1))).setCell ⟨w.heap.size + 1, 3, none⟩ (.bool false)) = W7
        intro HGI
        clear hwr
        have e1 : W7.cell? ⟨w.heap.size + 1, 1, none⟩ = some (.slice AO' dO.length cO') := HGI.out.b1.cell 1
        have e3 : W7.cell? ⟨w.heap.size + 1, 3, none⟩ = some (.bool false) := HGI.out.b1.cell 3
        have y3 := HGI.out.b1.frozen 3
        have e0 : W7.cell? ⟨w.heap.size + 1, 0, none⟩ = some (.slice AF' psF.length cF') := HGI.out.b1.cell 0
        have e2 : W7.cell? ⟨w.heap.size + 1, 2, none⟩ = some (.int .i64 (s.sp + 1)) := HGI.out.b1.cell 2
        have y0 := HGI.out.b1.frozen 0
        have y1 := HGI.out.b1.frozen 1
        have y2 := HGI.out.b1.frozen 2
        obtain ⟨b, hb⟩ : ∃ b, decide (dO.length = 0) = b := ⟨_, rfl⟩
        have q9 : ((dO.length : Int) == 0) = b := by rw [← hb]; by_cases h : dO.length = 0 <;> simp [h]
        have HBB := Lib.hid hb
        clear hb hcw HSV HT HTI HSO HSF HAP
        go_wp2_with fail
        have hT' : dO.map (·.2) = s.O.tail := by rw [← HDO.out, List.map_drop, HPSO.out, List.drop_one]
        have hlt : s.O.tail.length = dO.length := by rw [← hT', List.length_map]
        have hf := give_fin HGI.out b
        refine give_out (s' := giveS s t true) (vF := .slice AF' psF.length cF') (vO := .slice AO' dO.length cO') hf.1 ?_ ?_ ?_ hf.2.2 (.inr (.inr ⟨?_, ?_, rfl, rfl⟩)) ?_ ?_ ?_
        · simp only [giveS, if_true, hlt, HBB.out]
        · have := hf.2.1.1; rw [HPSF.out] at this; exact this
        · have := hf.2.1.2; rw [hT'] at this; exact this
        · rintro (h | h | ⟨_, h⟩ | ⟨h, _⟩)
          · exact h HOK.out
          · exact hO0 h
          · exact hq h
          · cases h
        · rintro ⟨h, _⟩; cases h
        · rfl
        · rfl
        · rfl
end Go.Proofs.YtbmdfnifbimfmaaGreatDoor
