/- Walks: Give. -/
import Derived.Test.YtbmdfnifbimfmaaGreatDoorCR
import Derived.Test.YtbmdfnifbimfmaaGreatDoorCI
namespace Go.Proofs.YtbmdfnifbimfmaaGreatDoor
open Go.RowKit Go.Shelf
attribute [local go_sem] Oper.semAt_some

theorem wp_normal {P : Program} {c : Code} {Q : Exit → Act → World → Prop} {a : Act} {w : World} (h : c.wp P (fun e a w => match e with | .normal => Q .normal a w | _ => False) a w) : c.wp P Q a w :=
  wp_mono h fun e a w h => by cases e <;> first | exact h | exact h.elim
theorem GI.blk1 {w W W4 : World} {old : Array Value} {spv : Int} {vF vO : Value} {psF ys : List (Value × List Int)} {o : Obj} (h : GI w old spv vF psF vO ys W) (hg : (W.alloc o).grownBy W4 vF.ownBlock) : Blk W4 (w.heap.size + 1) 36 #[vF, vO, .int .i64 spv, .bool false] :=
  h.b1.block ((hg.block _ (by have := h.b1.lt; simp; omega) fun e => by have := (h.rF.1.lt _ e.symm).1; omega).trans (Below.heap_alloc W o _ h.b1.lt))

set_option maxRecDepth 100000 in
set_option maxHeartbeats 8000000 in
theorem Give_some (v tv : Value) (s : Sr) (t : List Int) (w : World) (h : SrV w v s) (ht : SI w tv t) (hwt : ∀ x ∈ t, wfI x) (htl : t.length ≤ 100000) (hlF : s.F.length ≤ 100000) (hlO : s.O.length ≤ 100000) (hT : Tab w) (hins : t ∉ s.F → InsSSAt s.F.length (rank s.F t)) :
    Calls Tryz.prog 19 #[v, tv, .bool false] w (GivePost w s t false) := by
  obtain ⟨vF, vO, rfl, hF, hO⟩ := h
  obtain ⟨AF, cF, rfl, _, _, hAF⟩ := hF.form
  obtain ⟨AO, cO, rfl, _, _, hAO⟩ := hO.form
  obtain ⟨At, ct, rfl⟩ := SI.slice_form ht
  obtain ⟨W2, hW2⟩ : ∃ W2, (w.alloc (.cells #[.slice AF s.F.length cF, .slice AO s.O.length cO, .int .i64 s.sp, .bool s.dn] 36)).alloc (.cells #[.slice none 0 0, .slice none 0 0, .int .i64 0, .bool false] 36) = W2 := ⟨_, rfl⟩
  have hB2 : Below w.heap.size w W2 := by rw [← hW2]; exact ((Below.refl _ _).alloc (Nat.le_refl _) _).alloc (by simp) _
  have hb1 : Blk W2 w.heap.size 36 #[.slice AF s.F.length cF, .slice AO s.O.length cO, .int .i64 s.sp, .bool s.dn] := by rw [← hW2]; exact (Blk.new _ _ _).alloc _
  have hb2 : Blk W2 (w.heap.size + 1) 36 #[.slice none 0 0, .slice none 0 0, .int .i64 0, .bool false] := by rw [← hW2]; exact Blk.newAt _ _ _ (by simp)
  have hsz : W2.heap.size ≤ w.heap.size + 1 + 1 ∧ w.heap.size + 1 + 1 ≤ W2.heap.size := by rw [← hW2]; simp
  have c0 : W2.cell? ⟨w.heap.size, 0, none⟩ = some (.slice AF s.F.length cF) := hb1.cell 0
  have c1 : W2.cell? ⟨w.heap.size, 1, none⟩ = some (.slice AO s.O.length cO) := hb1.cell 1
  have c2 : W2.cell? ⟨w.heap.size, 2, none⟩ = some (.int .i64 s.sp) := hb1.cell 2
  have c3 : W2.cell? ⟨w.heap.size, 3, none⟩ = some (.bool s.dn) := hb1.cell 3
  have hwl : w.heap.size < W2.heap.size := hb1.lt
  have HSV : Hid (SrV W2 (.agg #[.slice AF s.F.length cF, .slice AO s.O.length cO, .int .i64 s.sp, .bool s.dn]) s) := Lib.hid ⟨_, _, rfl, hF.up hB2, hO.up hB2⟩
  have HF := Lib.hid hF
  have HO := Lib.hid hO
  have HT := Lib.hid (hT.up hB2)
  have HTI := Lib.hid (ht.up hB2)
  have HTI0 := Lib.hid ht
  have HTAB := Lib.hid hT
  have HB := Lib.hid hB2
  have HB1 := Lib.hid hb1
  have HB2 := Lib.hid hb2
  have HWT := Lib.hid hwt
  have HINS := Lib.hid hins
  clear hF hO hAF hAO hB2 hb1 hb2 ht hwt hT hins
  refine (callsIn_wide (n := 4)).1 ?_
  refine callsIn_of_wp_marks Tryz.func19 rfl trivial ?_ rfl
  simp only [Tryz.ntmps19, List.size_toArray, List.length_cons, List.length_nil, Nat.reduceAdd, Nat.reduceSub, Array.replicate_succ, Array.replicate_zero, List.push_toArray, List.append_toArray, List.nil_append, List.cons_append]
  refine wpIn_wide.2 ?_
  go_wp2_with fail
  refine (Check_any _ s W2 HSV.out (by omega) (by omega) HT.out).mono ?_
  rintro e w3 ⟨rfl, hB3⟩
  have HB3 := Lib.hid hB3
  have HBW3 := Lib.hid (bAfter HB.out hB3)
  have d0 : w3.cell? ⟨w.heap.size, 0, none⟩ = some (.slice AF s.F.length cF) := (hB3.cell (p := ⟨w.heap.size, 0, none⟩) hwl).trans c0
  have d1 : w3.cell? ⟨w.heap.size, 1, none⟩ = some (.slice AO s.O.length cO) := (hB3.cell (p := ⟨w.heap.size, 1, none⟩) hwl).trans c1
  have d2 : w3.cell? ⟨w.heap.size, 2, none⟩ = some (.int .i64 s.sp) := (hB3.cell (p := ⟨w.heap.size, 2, none⟩) hwl).trans c2
  have HBB1 := Lib.hid (HB1.out.below hB3)
  have HBB2 := Lib.hid (HB2.out.below hB3)
  have hsz3 := hB3.size
  clear hB3 c0 c1 c2 c3
  have g0 : w3.cell? ⟨w.heap.size + 1, 0, none⟩ = some (.slice none 0 0) := HBB2.out.cell 0
  have g1 : w3.cell? ⟨w.heap.size + 1, 1, none⟩ = some (.slice none 0 0) := HBB2.out.cell 1
  have g2 : w3.cell? ⟨w.heap.size + 1, 2, none⟩ = some (.int .i64 0) := HBB2.out.cell 2
  have g3 : w3.cell? ⟨w.heap.size + 1, 3, none⟩ = some (.bool false) := HBB2.out.cell 3
  have k0 := HBB2.out.frozen 0
  have k1 := HBB2.out.frozen 1
  have k2 := HBB2.out.frozen 2
  have k3 := HBB2.out.frozen 3
  cases hok : bOf (SrOk s) with
  | false =>
    have HN := Lib.hid (bOf_false_iff.1 hok)
    clear hok
    go_wp2_with fail
    exact give_out (set4_blk HBB2.out rfl) rfl (SS.nil _) (SS.nil _) (set4_below HBW3.out (by omega)) (.inl ⟨.inl HN.out, rfl, rfl⟩) (s' := noSr) rfl rfl rfl
  | true =>
    have HOK := Lib.hid (bOf_iff.1 hok)
    clear hok
    have hsp : s.sp < 2000000000 := by have := HOK.out.sp; omega
    by_cases hO0 : s.O.length = 0
    · have q : ((s.O.length : Int) == 0) = true := by simp [hO0]
      have H0 := Lib.hid hO0
      clear hO0
      go_wp2_with fail
      exact give_out (set4_blk HBB2.out rfl) rfl (SS.nil _) (SS.nil _) (set4_below HBW3.out (by omega)) (.inl ⟨.inr (.inl H0.out), rfl, rfl⟩) (s' := noSr) rfl rfl rfl
    · have q : ((s.O.length : Int) == 0) = false := by rw [beq_eq_false_iff_ne]; omega
      obtain ⟨z, hz⟩ := get_some (l := s.O) (k := 0) (by omega)
      have HZ := Lib.hid hz
      have HZH : Hid (s.O.headD [] = z) := Lib.hid (by
        cases hO : s.O with
        | nil => rw [hO] at hz; cases hz
        | cons a r => rw [hO] at hz; simp at hz; simp [hz])
      clear hz
      obtain ⟨psF, hpsF, hspF⟩ := HF.out
      obtain ⟨psO, hpsO, hspO⟩ := HO.out
      have hlpF : psF.length = s.F.length := by rw [← hpsF, List.length_map]
      have hlpO : psO.length = s.O.length := by rw [← hpsO, List.length_map]
      have hspO' := hspO.1
      rw [← hlpO] at hspO'
      obtain ⟨Ad, hrun1, hS1⟩ := cut_from uS zS hspO' (n := 1) (by omega)
      rw [hlpO] at hrun1
      obtain ⟨dO, hdO⟩ : ∃ dO, psO.drop 1 = dO := ⟨_, rfl⟩
      rw [hdO] at hS1
      have hdl : dO.length = s.O.length - 1 := by rw [← hdO, List.length_drop, hlpO]
      rw [hlpO] at hS1
      obtain ⟨m1, hm1⟩ : ∃ m1, s.O.length - 1 = m1 := ⟨_, rfl⟩
      rw [hm1] at hrun1 hS1 hdl
      obtain ⟨cO1, hcO1⟩ : ∃ cO1, cO - 1 = cO1 := ⟨_, rfl⟩
      rw [hcO1] at hrun1 hS1
      have hspO1 : SP w (.slice Ad m1 cO1) dO := ⟨hS1, fun p hp => hspO.2 p (by rw [← hdO] at hp; exact List.mem_of_mem_drop hp)⟩
      have HSO : Hid (SP W2 (.slice Ad m1 cO1) dO) := Lib.hid (hspO1.up HB.out)
      have HSF : Hid (SP W2 (.slice AF s.F.length cF) psF) := Lib.hid (hspF.up HB.out)
      have HAP : Hid ((∀ p ∈ psF, ∀ a n c, p.1 = .slice (some a) n c → 0 < n → a.block < w.heap.size) ∧ ∀ p ∈ dO, ∀ a n c, p.1 = .slice (some a) n c → 0 < n → a.block < w.heap.size) := Lib.hid ⟨fun p hp a n c e hn => (hspF.2 p hp).block_lt e hn, fun p hp a n c e hn => (hspO1.2 p hp).block_lt e hn⟩
      have HPSF := Lib.hid hpsF
      have HPSO := Lib.hid hpsO
      have HDO := Lib.hid hdO
      have HDL := Lib.hid (And.intro hdl hlpF)
      have hcw : ∀ W, (Instr.slice 22 (.slice AO s.O.length cO) (some (.int .i64 1)) none none).run Tryz.prog W = .ok (.slice Ad m1 cO1) W := hrun1
      clear hspO1 hpsF hspF hpsO hspO hlpF hlpO hspO' hS1 hdO hdl hrun1
      have HK : Hid (∀ W', Below w3.heap.size w3 W' → (W'.cell? ⟨w.heap.size, 0, none⟩ = some (.slice AF s.F.length cF) ∧ W'.cell? ⟨w.heap.size, 1, none⟩ = some (.slice AO s.O.length cO) ∧ W'.cell? ⟨w.heap.size, 2, none⟩ = some (.int .i64 s.sp)) ∧
          SP W' (.slice AF s.F.length cF) psF ∧ SP W' (.slice Ad m1 cO1) dO) := Lib.hid fun W' hB' =>
        ⟨⟨((HBB1.out.below hB').cell 0), ((HBB1.out.below hB').cell 1), ((HBB1.out.below hB').cell 2)⟩, (HSF.out.up HB3.out).up hB', (HSO.out.up HB3.out).up hB'⟩
      have HK2 : Hid (∀ W', Below w3.heap.size w3 W' → Blk W' (w.heap.size + 1) 36 #[.slice none 0 0, .slice none 0 0, .int .i64 0, .bool false]) := Lib.hid fun W' hB' => HBB2.out.below hB'
      have HL1 : Hid (psF.length ≤ 1000000 ∧ dO.length ≤ 1000000) := Lib.hid (by have := HDL.out; omega)
      have hB30 : Below w3.heap.size w3 w3.drew := (Below.refl _ _).drew
      have hD0 : w3.drew.cell? ⟨w.heap.size, 0, none⟩ = some (.slice AF s.F.length cF) ∧ w3.drew.cell? ⟨w.heap.size, 1, none⟩ = some (.slice AO s.O.length cO) ∧ w3.drew.cell? ⟨w.heap.size, 2, none⟩ = some (.int .i64 s.sp) := ⟨d0, d1, d2⟩
      have HNE1 : Hid (w.heap.size ≠ w.heap.size + 1) := Lib.hid (by omega)
      have hwr : IntKind.i64.wrap (s.sp + 1) = s.sp + 1 := IntWalk.i64_in _ (by have := HOK.out.sp; omega)
      go_wp2_with fail
      go_region_held3 (fun W => W.cell? ⟨w.heap.size, 0, none⟩ = some (.slice AF s.F.length cF) ∧ W.cell? ⟨w.heap.size, 1, none⟩ = some (.slice AO s.O.length cO) ∧ W.cell? ⟨w.heap.size, 2, none⟩ = some (.int .i64 s.sp)) (first | with_reducible exact hD0 | with_reducible exact (HK.out _ hBF').1 | with_reducible exact (HK.out _ hBO').1 | with_reducible exact keep4 HNE1.out (HK.out _ hBO').1 | with_reducible exact keep4 HNE1.out (HK.out _ hBF').1)
        (first
          | (go_at_call 38; with_reducible refine (cloneSS_any (.slice AF s.F.length cF) psF _ (HK.out _ (by first | exact hBO' | exact hB30)).2.1 HL1.out.1).mono ?_;
             rintro e wF ⟨vF', rfl, hoF, hBF⟩;
             have hBF' : Below w3.heap.size w3 wF := bAfter (by first | exact hBO' | exact hB30) hBF;
             obtain ⟨AF', cF', hfF⟩ := own_form hoF.1;
             subst hfF;
             have HOF := Lib.hid hoF;
             have HBF := Lib.hid hBF;
             have l0 := (HK2.out _ hBF').cell 0;
             have l1 := (HK2.out _ hBF').cell 1;
             have l2 := (HK2.out _ hBF').cell 2;
             have l3 := (HK2.out _ hBF').cell 3;
             have m0 := (HK2.out _ hBF').frozen 0;
             have m1' := (HK2.out _ hBF').frozen 1;
             have m2 := (HK2.out _ hBF').frozen 2;
             have m3 := (HK2.out _ hBF').frozen 3;
             clear hoF hBF)
          | (go_at_call 38; with_reducible refine (cloneSS_any (.slice Ad m1 cO1) dO _ (HK.out _ (by first | exact hBF' | exact hB30)).2.2 HL1.out.2).mono ?_;
             rintro e wO ⟨vO', rfl, hoO, hBO⟩;
             have hBO' : Below w3.heap.size w3 wO := bAfter (by first | exact hBF' | exact hB30) hBO;
             obtain ⟨AO', cO', hfO⟩ := own_form hoO.1;
             subst hfO;
             have HOO := Lib.hid hoO;
             have HBO := Lib.hid hBO;
             have l4 := (HK2.out _ hBO').cell 0;
             have l5 := (HK2.out _ hBO').cell 1;
             have l6 := (HK2.out _ hBO').cell 2;
             have l7 := (HK2.out _ hBO').cell 3;
             have m4 := (HK2.out _ hBO').frozen 0;
             have m5 := (HK2.out _ hBO').frozen 1;
             have m6 := (HK2.out _ hBO').frozen 2;
             have m7 := (HK2.out _ hBO').frozen 3;
             clear hoO hBO))
      rename_i K hK hH
      clear l0 l1 l2 l3 l4 l5 l6 l7 m0 m1' m2 m3 m4 m5 m6 m7 g0 g1 g2 g3 k0 k1 k2 k3 d0 d1 d2 hD0
      have hgi : GI w #[.slice AF s.F.length cF, .slice AO s.O.length cO, .int .i64 s.sp, .bool s.dn] (s.sp + 1) (.slice AF' psF.length cF') psF (.slice AO' dO.length cO') dO ((((wO.setCell ⟨w.heap.size + 1, 0, none⟩ (.slice AF' psF.length cF')).setCell ⟨w.heap.size + 1, 1, none⟩ (.slice AO' dO.length cO')).setCell ⟨w.heap.size + 1, 2, none⟩ (.int .i64 (s.sp + 1))).setCell ⟨w.heap.size + 1, 3, none⟩ (.bool false)) :=
        give_mid HOF.out HBF.out HOO.out HBO.out hBO' (by omega) (HBB1.out.below hBO') (HK2.out _ hBO') HBW3.out HAP.out
      have HGI := Lib.hid hgi
      clear hgi hH HOF HBF HOO HBO hBO' hBF' HK HK2 hB30
      refine hK _ _ ?_
      clear hK
      revert HGI
      generalize ((((wO.setCell ⟨w.heap.size + 1, 0, none⟩ (.slice AF' psF.length cF')).setCell ⟨w.heap.size + 1, 1, none⟩ (.slice AO' dO.length cO')).setCell ⟨w.heap.size + 1, 2, none⟩ (.int .i64 (s.sp + 1))).setCell ⟨w.heap.size + 1, 3, none⟩ (.bool false)) = W7
      intro HGI
      clear hwr
      have e0 : W7.cell? ⟨w.heap.size, 0, none⟩ = some (.slice AF s.F.length cF) := HGI.out.b0.cell 0
      have e1 : W7.cell? ⟨w.heap.size, 1, none⟩ = some (.slice AO s.O.length cO) := HGI.out.b0.cell 1
      have e2 : W7.cell? ⟨w.heap.size, 2, none⟩ = some (.int .i64 s.sp) := HGI.out.b0.cell 2
      have e3 : W7.cell? ⟨w.heap.size, 3, none⟩ = some (.bool s.dn) := HGI.out.b0.cell 3
      clear hcw HSV HT HTI HSO HSF HB1 HB2 HBB1 HBB2 HB3 HBW3 HL1 HNE1
      go_wp2_with fail
      refine (place_any _ _ s z t W7 ⟨_, _, rfl, HF.out.up HGI.out.low, HO.out.up HGI.out.low⟩ (HTI0.out.up HGI.out.low) HWT.out (by omega) HOK.out HZ.out).mono ?_
      rintro e w8 ⟨hB8, hp⟩
      have HG8 := Lib.hid (HGI.out.up hB8)
      clear HGI hB8 e0 e1 e2 e3
      have f0 : w8.cell? ⟨w.heap.size + 1, 0, none⟩ = some (.slice AF' psF.length cF') := HG8.out.b1.cell 0
      have f1 : w8.cell? ⟨w.heap.size + 1, 1, none⟩ = some (.slice AO' dO.length cO') := HG8.out.b1.cell 1
      have f2 : w8.cell? ⟨w.heap.size + 1, 2, none⟩ = some (.int .i64 (s.sp + 1)) := HG8.out.b1.cell 2
      have f3 : w8.cell? ⟨w.heap.size + 1, 3, none⟩ = some (.bool false) := HG8.out.b1.cell 3
      have y0 := HG8.out.b1.frozen 0
      have y1 := HG8.out.b1.frozen 1
      have y2 := HG8.out.b1.frozen 2
      have y3 := HG8.out.b1.frozen 3
      rcases hp with ⟨hbad, rfl⟩ | ⟨hgood, hnot, hfull, rfl⟩ | ⟨hgood, hroom, rfl⟩
      · have HBAD := Lib.hid hbad
        clear hbad
        go_wp2_with fail
        exact give_out (set4_blk HG8.out.b1 rfl) rfl (SS.nil _) (SS.nil _) (set4_below HG8.out.low (by omega)) (.inl ⟨.inr (.inr (.inr ⟨rfl, by rw [HZH.out]; exact HBAD.out⟩)), rfl, rfl⟩) (s' := noSr) rfl rfl rfl
      · have HGOOD : Hid (¬ GiveBad s t false) := Lib.hid (by
          rintro (h | h | ⟨h, _⟩ | ⟨_, h⟩)
          · exact h HOK.out
          · exact hO0 h
          · cases h
          · rw [HZH.out] at h; exact hgood h)
        have HFULL : Hid (GiveFull s t false) := Lib.hid ⟨rfl, hnot, hfull⟩
        clear hgood hnot hfull
        go_wp2_with fail
        exact give_out (set4_blk HG8.out.b1 rfl) rfl (SS.nil _) (SS.nil _) (set4_below HG8.out.low (by omega)) (.inr (.inl ⟨HGOOD.out, HFULL.out, rfl, rfl⟩)) (s' := noSr) rfl rfl rfl
      · have HGOOD : Hid (¬ GiveBad s t false) := Lib.hid (by
          rintro (h | h | ⟨h, _⟩ | ⟨_, h⟩)
          · exact h HOK.out
          · exact hO0 h
          · cases h
          · rw [HZH.out] at h; exact hgood h)
        have HROOM : Hid (¬ GiveFull s t false) := Lib.hid (by
          rintro ⟨_, h1, h2⟩
          rcases hroom with h | h
          · exact h1 h
          · omega)
        have HVT : Hid (Valid t) := Lib.hid (Classical.not_not.1 fun h => hgood (.inl h))
        clear hgood hroom
        have HPL : Hid (psF.length = s.F.length) := Lib.hid HDL.out.2
        clear HDL
        obtain ⟨fd, hfd⟩ : ∃ fd, bOf (t ∈ s.F) = fd := ⟨_, rfl⟩
        have HFD := Lib.hid hfd
        rw [hfd]
        clear hfd
        go_upto_if 59 with fail
        go_cut [] from 47 to 67 (fun wx => ∃ A2 c2 psF2, Hid (GI w #[.slice AF s.F.length cF, .slice AO s.O.length cO, .int .i64 s.sp, .bool s.dn] (s.sp + 1) (.slice A2 psF2.length c2) psF2 (.slice AO' dO.length cO') dO wx) ∧ Hid (psF2.map (·.2) = if bOf (t ∈ s.F) then s.F else insAt s.F (rank s.F t) t))
        case first =>
          cases fd with
          | true =>
            go_wp2_with fail
            go_meet
            case rel => exact ⟨_, _, _, HG8, Lib.hid (by rw [HFD.out]; exact HPSF.out)⟩
          | false =>
            have hnm : t ∉ s.F := bOf_false_iff.1 HFD.out
            have hlt : t.length ≤ 1000000 := by omega
            have HT8 := Lib.hid (HTI0.out.up HG8.out.low)
            have HKC : Hid (∀ wC vC, w8.heap.size ≤ wC.heap.size → Below w8.heap.size w8 wC → wC.ownsRow w8.heap.size 3 1 vC t.length (t.map iV) → wC.cell? ⟨w.heap.size + 1, 0, none⟩ = some (.slice AF' psF.length cF') ∧ (wC.alloc (.cells #[vC] 23)).cell? ⟨w.heap.size + 1, 0, none⟩ = some (.slice AF' psF.length cF') ∧
              Calls Tryz.prog 40 #[.slice AF' psF.length cF', .int .i64 (rank s.F t), .slice (some ⟨wC.heap.size, 0, none⟩) 1 1] (wC.alloc (.cells #[vC] 23)) (InsSSPost (wC.alloc (.cells #[vC] 23)) (w.heap.size + 2) (.slice AF' psF.length cF') (insAt psF (rank s.F t) (vC, t)))) := Lib.hid fun wC vC hsz hB hr => by
              have hG := (HG8.out.up hB)
              have hd := HG8.out.low.size
              refine ⟨hG.b1.cell 0, (hG.b1.alloc _).cell 0, HINS.out hnm (w.heap.size + 2) _ psF (vC, t) wC.heap.size _ HPL.out (hG.rF.alloc _) (Blk.new _ _ _) (S1.al (own_S1 (f := iV) hr) _) ?_ ?_ ?_ (by omega)⟩
              · intro a n c e hn e'
                have h1 := (HG8.out.rF.1.lt _ e'.symm).2
                rcases hr.2 with ⟨h0, _⟩ | ⟨g, cap, cur, hv, hg, _⟩
                · rw [h0] at e; cases e
                · have e : vC = .slice (some a) n c := e
                  rw [hv] at e; injection e with e1; injection e1 with e1; rw [← e1] at h1; simp only at h1; omega
              · intro e
                have := (hG.rF.1.lt _ e).2
                omega
              · have := hG.b1.lt; simp; omega
            clear f1 f2 f3 y1 y2 y3
            go_wp2_with fail
            refine wp_normal ?_
            go_region_with
              (first
                | (go_at_call 41; with_reducible refine (cloneS_any (.slice At t.length ct) t _ (S1.drew HT8.out) hlt).mono ?_;
                   rintro e wC ⟨vC, rfl, hrC, hBC⟩;
                   have hBC' : Below w8.heap.size w8 wC := bAfter ((Below.refl _ _).drew) hBC;
                   obtain ⟨AC, cC, hfC⟩ := own_form hrC;
                   subst hfC;
                   have HC := Lib.hid (And.intro hrC hBC');
                   have p0 := (HKC.out wC _ hBC'.size hBC' hrC).1;
                   have p1 := (HKC.out wC _ hBC'.size hBC' hrC).2.1;
                   have HIN := Lib.hid (HKC.out wC _ hBC'.size hBC' hrC).2.2;
                   clear hrC hBC hBC')
                | (go_at_call 40; with_reducible refine (HIN.out).mono ?_;
                   rintro e wI ⟨vI, rfl, hoI, hgI⟩;
                   obtain ⟨AI, cI, hfI⟩ := own_form hoI.1;
                   subst hfI;
                   have HI := Lib.hid (And.intro hoI hgI);
                   have hb4 := (HG8.out.up HC.out.2).blk1 hgI.1;
                   have p2 : wI.cell? ⟨w.heap.size + 1, 0, none⟩ = some (.slice AF' psF.length cF') := hb4.cell 0;
                   have p3 := hb4.frozen 0;
                   have p4 := hb4.lt;
                   clear hb4;
                   clear hoI hgI))
            all_goals (
              clear p0 p1 p2 p3 p4
              dsimp only
              have hG : GI w #[.slice AF s.F.length cF, .slice AO s.O.length cO, .int .i64 s.sp, .bool s.dn] (s.sp + 1) _ _ (.slice AO' dO.length cO') dO _ := (HG8.out.up HC.out.2).ins HI.out.1 HI.out.2.1 HI.out.2.2 (fun p hp a n c e hn e' => by have := HAP.out.2 p hp a n c e hn; have := (HG8.out.rF.1.lt _ e'.symm).1; omega) (fun p hp => by
                rcases mem_insAt hp with rfl | hp
                · constructor
                  · intro a n c e hn e'
                    have h1 := (HG8.out.rO.1.lt _ e'.symm).2
                    have h2 : w8.heap.size ≤ a.block := newB_of_own HC.out.1 (Nat.le_refl _) a n c e hn
                    omega
                  · intro a n c e hn e'
                    injection e' with e'
                    have h1 := HG8.out.b1.lt
                    have h2 : w8.heap.size ≤ a.block := newB_of_own HC.out.1 (Nat.le_refl _) a n c e hn
                    omega
                · exact HG8.out.aF p hp)
              have HGN := Lib.hid hG
              clear hG
              go_wp2_with fail
              go_meet
              case rel => exact ⟨_, _, _, HGN, Lib.hid (by rw [HFD.out, insAt_map, HPSF.out]; rfl)⟩)
        case rest =>
          obtain ⟨A2, c2, psF2, HG, HF2⟩ := hcut
          clear HG8 f0 f1 f2 f3 y0 y1 y2 y3 HINS
          have f1 : wc.cell? ⟨w.heap.size + 1, 1, none⟩ = some (.slice AO' dO.length cO') := HG.out.b1.cell 1
          have hlt : w.heap.size + 1 < wc.heap.size := HG.out.b1.lt
          have hmm := @run_makeMap Tryz.prog
          obtain ⟨W9, hW9⟩ : ∃ W9, (wc.alloc (.map #[] 0)).alloc (.cells #[.map (some wc.heap.size)] 60) = W9 := ⟨_, rfl⟩
          have hB9 : Below wc.heap.size wc W9 := by rw [← hW9]; exact ((Below.refl _ _).alloc (Nat.le_refl _) _).alloc (by simp) _
          have HG9 := Lib.hid (HG.out.up hB9)
          have HM9 : Hid (MapF W9 K9 wc.heap.size 0 (keyF ((dO.map (·.2)).take 0))) := Lib.hid (by rw [← hW9]; exact (((MapF.made wc K9).congr fun x _ => by unfold keyF; rw [if_neg (by simp)]).alloc _))
          have HB9 : Hid (Blk W9 (wc.heap.size + 1) 60 #[.map (some wc.heap.size)]) := Lib.hid (by rw [← hW9]; exact Blk.newAt _ _ _ (by simp))
          have g1 : W9.cell? ⟨w.heap.size + 1, 1, none⟩ = some (.slice AO' dO.length cO') := HG9.out.b1.cell 1
          have hT' : dO.map (·.2) = s.O.tail := by rw [← HDO.out, List.map_drop, HPSO.out, List.drop_one]
          have HTL := Lib.hid hT'
          have hdl : dO.length ≤ 100000 := by have := congrArg List.length hT'; rw [List.length_map, List.length_tail] at this; omega
          clear HG hB9 f1 hT'
          go_wp2_with fail
          clear hmm hW9
          go_loopw [72] (fun i wr => ∃ k : Nat, k ≤ dO.length ∧ i = .int .i64 k ∧ Hid (GI w #[.slice AF s.F.length cF, .slice AO s.O.length cO, .int .i64 s.sp, .bool s.dn] (s.sp + 1) (.slice A2 psF2.length c2) psF2 (.slice AO' dO.length cO') dO wr) ∧ Hid (MapF wr K9 wc.heap.size k (keyF ((dO.map (·.2)).take k))) ∧ Hid (Blk wr (wc.heap.size + 1) 60 #[.map (some wc.heap.size)])) (fun i _ => dO.length - (intOf i).toNat)
          case atStart => exact ⟨0, Nat.zero_le _, rfl, HG9, HM9, HB9⟩
          case round =>
            clear HG9 HM9 HB9 g1
            obtain ⟨k, hk, rfl, HG, HM, HBM⟩ := hrel
            by_cases hkl : k < dO.length
            · obtain ⟨A3, c3, hf3, _, _, hA3⟩ := HG.out.rO.sp.1.form
              obtain ⟨hAA, hcc⟩ : AO' = A3 ∧ cO' = c3 := by injection hf3 with h1 h2 h3; exact ⟨h1, h3⟩
              obtain ⟨b3, o3, hAe, hb3, hcell⟩ := hA3 (by omega)
              obtain ⟨p, hp⟩ := get_some hkl
              have hpI : SI wr p.1 p.2 := (HG.out.rO.2 p (List.mem_of_getElem? hp)).1
              obtain ⟨Ap, cp, hpf⟩ := SI.slice_form hpI
              obtain ⟨T, hT⟩ : ∃ T, p.2 = T := ⟨_, rfl⟩
              rw [hT] at hpI hpf
              have d1 : wr.cell? ⟨b3, o3 + k, none⟩ = some (.slice Ap T.length cp) := by rw [← hpf]; exact hcell k p hp
              have HU : Hid (SI wr (.slice Ap T.length cp) T) := Lib.hid (by rw [← hpf]; exact hpI)
              have hTk : (dO.map (·.2))[k]? = some T := by rw [List.getElem?_map, hp]; simp [hT]
              have HTK := Lib.hid hTk
              have HTV : Hid (Valid T) := Lib.hid (HOK.out.vO T (by
                have h1 := List.mem_of_getElem? hTk
                rw [HTL.out] at h1; exact List.mem_of_mem_tail h1))
              have htl2 := valid_len HTV.out
              have HTW : Hid (∀ x ∈ T, wfI x) := Lib.hid fun x hx => by have := HTV.out.1 x hx; exact wfI_of (by omega) (by omega)
              have HKL : Hid ((keyL T).length ≤ maxLen) := Lib.hid (by have := keyL_len T HTW.out; unfold maxLen; omega)
              have HTB : Hid (Tab wr) := Lib.hid (HTAB.out.up HG.out.low)
              have hS0 : wr.drew.cell? ⟨wc.heap.size + 1, 0, none⟩ = some (.map (some wc.heap.size)) := HBM.out.cell 0
              clear hcell hp hpI hpf hT hTk hA3 hf3
              subst hAA hcc hAe
              have q1 : (0 : Int) ≤ (k : Int) := by omega
              have q2 : (k : Int) < (dO.length : Int) := by omega
              go_wp2_with fail
              go_region_held3 (fun W => W.cell? ⟨wc.heap.size + 1, 0, none⟩ = some (.map (some wc.heap.size))) (first | with_reducible exact hS0 | with_reducible exact hS1 | with_reducible exact hS2)
                (first
                  | (go_at_call 42; with_reducible refine (key_any (.slice Ap T.length cp) T _ (S1.drew HU.out) HTW.out (by omega) (HTB.out.up ((Below.refl _ _).drew))).mono ?_;
                     rintro e wK ⟨rfl, hBK⟩;
                     have hBK' : Below wr.heap.size wr wK := bAfter ((Below.refl _ _).drew) hBK;
                     obtain ⟨wU, hrun, hmU, hgU⟩ := (HM.out.up hBK').put Tryz.underlying60 (by unfold maxLen; omega) HKL.out (.bool true);
                     have hrun' : (Instr.mapUpdate 60 (.map (some wc.heap.size)) (.string ⟨(keyL T).toArray⟩) (.bool true)).run Tryz.prog wK = .ok () wU := hrun;
                     have hS1 : wK.cell? ⟨wc.heap.size + 1, 0, none⟩ = some (.map (some wc.heap.size)) := (HBM.out.below hBK').cell 0;
                     have hb2 := (HBM.out.below hBK').grown hgU (by simp);
                     have hS2 : wU.cell? ⟨wc.heap.size + 1, 0, none⟩ = some (.map (some wc.heap.size)) := hb2.cell 0;
                     have HU2 := Lib.hid (And.intro hBK' (And.intro hmU hgU));
                     have HBM2 := Lib.hid hb2;
                     clear hrun hBK hBK' hmU hgU hb2))
              have HG2 := Lib.hid ((HG.out.up HU2.out.1).grown HU2.out.2.2 (by omega) (fun o ho => (HM.out.up HU2.out.1).noCells ho))
              have HM2 : Hid (MapF wU K9 wc.heap.size (k + 1) (keyF ((dO.map (·.2)).take (k + 1)))) := Lib.hid (by have := HU2.out.2.1; rw [keyF_snoc] at this; rw [take_snoc HTK.out]; exact this)
              clear hS0 hS1 hS2 hrun' HG HM HBM
              go_wp2_with fail
              go_roundw
              case rel => exact ⟨k + 1, by omega, by go_num, HG2, HM2, HBM2⟩
              case measure => simp [intOf]; omega
            · obtain rfl : k = dO.length := by omega
              obtain ⟨A4, c4, hf4, _, _, hA4⟩ := HO.out.form
              obtain ⟨hAA, hcc⟩ : AO = A4 ∧ cO = c4 := by injection hf4 with h1 h2 h3; exact ⟨h1, h3⟩
              obtain ⟨b4, o4, hAe, hb4, hcell⟩ := hA4 (by omega)
              obtain ⟨uz, dz, hzI⟩ := hcell 0 z HZ.out
              obtain ⟨Az, cz, hzf⟩ := SI.slice_form hzI
              have e1 : wr.cell? ⟨w.heap.size, 1, none⟩ = some (.slice AO s.O.length cO) := HG.out.b0.cell 1
              have e4 : wr.cell? ⟨b4, o4, none⟩ = some (.slice Az z.length cz) := (HG.out.low.cell (p := ⟨b4, o4, none⟩) hb4).trans (by rw [← hzf]; exact dz)
              have HZI : Hid (SI w (.slice Az z.length cz) z) := Lib.hid (by rw [← hzf]; exact hzI)
              clear hcell dz hzI hzf hA4 hf4
              subst hAA hcc hAe
              have q0 : (0 : Int) < (s.O.length : Int) := by omega
              go_wp2_with fail
              refine (branches_any _ _ _ _ _ _ _).mono ?_
              rintro e wB ⟨rfl, hwB⟩
              have hBB : Below wr.heap.size wr wB := by rw [hwB]; exact ((Below.refl _ _).alloc (Nat.le_refl _) _).alloc (by simp) _
              have hblo : Blk wB wr.heap.size 23 #[.slice Az z.length cz] := by rw [hwB]; exact (Blk.new _ _ _).alloc _
              have hbls : Blk wB (wr.heap.size + 1) 23 #[.slice At t.length ct] := by rw [hwB]; exact Blk.newAt _ _ _ (by simp)
              have hsB : wB.heap.size ≤ wr.heap.size + 2 ∧ wr.heap.size + 2 ≤ wB.heap.size := by rw [hwB]; simp
              have hwr : wc.heap.size + 1 < wr.heap.size := HBM.out.lt
              have hwl2 := HG.out.low.size
              have HR0 := Lib.hid (RI.start HG.out HM.out HBM.out hBB hsB.2)
              have HLO := Lib.hid (bAfter HG.out.low hBB)
              have HBO := Lib.hid hblo
              have HBS := Lib.hid hbls
              have HVZ : Hid (Valid z) := Lib.hid (HOK.out.vO z (List.mem_of_getElem? HZ.out))
              have hzl := valid_len HVZ.out
              clear HG HM HBM hblo hbls e1 e4 hwB
              go_wp2_with fail
              refine (wpIn_wide (n := 4)).1 ?_
              refine range_new (Z := fun k T => ∃ x, t[k]? = some x ∧ T = brL z x) (fun k => k < w.heap.size ∨ k = wr.heap.size ∨ k = wr.heap.size + 1) (fun ys => ys.map (·.2) = t.map (brL z)) 65 #[.pointer (some ⟨wr.heap.size + 1, 0, none⟩), .pointer (some ⟨wr.heap.size, 0, none⟩)] (by omega) rfl eg_branches1 rfl (fun k hk => by omega)
                (fun lp J W hb hJ hY h0 => branches1_any _ _ _ lp (wr.heap.size + 1) wr.heap.size J W (.slice At t.length ct) (.slice Az z.length cz) t z hJ hY ((HBS.out.below hb).cell 0) ((HBO.out.below hb).cell 0) (HTI0.out.up (bAfter HLO.out hb)) (HZI.out.up (bAfter HLO.out hb)) (.inr (.inr rfl)) (.inr (.inl rfl)) (fun a n c e hn => .inl (HTI0.out.block_lt e hn)) (fun a n c e hn => .inl (HZI.out.block_lt e hn)) HVZ.out.2 (by omega) (by omega) (fun k x hx => ⟨x, hx, rfl⟩) h0)
                _ (RI.own (by omega) (by omega)) HR0.out ?a1 ?assign ?body ?done
              case assign =>
                intro lp u W K' hK
                gi_wp2
                exact hK
              case body =>
                clear HR0 HBO HBS hBB
                intro lp pre u T W hlp hI hL hZ
                obtain ⟨x, hx, hTe⟩ := hZ
                obtain ⟨vO, hG, hz1, hz2⟩ := hI.row
                obtain ⟨Ax, cx, hvx⟩ := own_form hG.rO.1
                subst hvx
                obtain ⟨Au, cu, hu⟩ := own_form hL
                subst hu
                have hTl : T.length ≤ z.length + 1 := by rw [hTe]; exact Nat.le_of_eq (insAt_len _ _ _ (cntLt_le _ _))
                have hxt := (List.getElem?_eq_some_iff.1 hx).1
                have hTW : ∀ y ∈ T, wfI y := fun y hy => by
                  rw [hTe] at hy
                  rcases mem_insAt hy with rfl | hy
                  · exact HWT.out _ (List.mem_of_getElem? hx)
                  · have := HVZ.out.1 y hy; exact wfI_of (by omega) (by omega)
                have HTW := Lib.hid hTW
                have HKL : Hid ((keyL T).length ≤ maxLen) := Lib.hid (by have := keyL_len T hTW; unfold maxLen; omega)
                have HTBW : Hid (Tab W.drew) := Lib.hid ((HTAB.out.up hG.low).up ((Below.refl _ _).drew))
                have HLS : Hid (SI W.drew (.slice Au T.length cu) T) := Lib.hid (own_S1 (f := iV) hL)
                have d0 : W.cell? ⟨wc.heap.size + 1, 0, none⟩ = some (.map (some wc.heap.size)) := hI.mp.cell 0
                have hnl : (dO ++ pre.filter (freshB dO)).length ≤ dO.length + pre.length := by rw [List.length_append]; have := List.length_filter_le (freshB dO) pre; omega
                have d1 : W.cell? ⟨w.heap.size + 1, 1, none⟩ = some (.slice Ax (dO ++ pre.filter (freshB dO)).length cx) := hG.b1.cell 1
                have HI := Lib.hid hI
                have HL := Lib.hid hL
                have HB1 := Lib.hid hG.b1
                have HR2 := Lib.hid hG.rO.1
                have hWl := HB1.out.lt
                clear hx hTe hG hz1 hz2 hTW hI hL
                have hmx : Tryz.prog.follows .mixedOrders = true := by kernel_rfl
                have hfn : Fence.wide.fn 42 := trivial
                obtain ⟨i0, hi, hz0, hz1, hz2⟩ := info_parts infoS
                have HMM : Hid (∀ wK, Below W.drew.heap.size W.drew wK → Below W.heap.size W wK ∧ wK.cell? ⟨wc.heap.size + 1, 0, none⟩ = some (.map (some wc.heap.size)) ∧ wK.cell? ⟨w.heap.size + 1, 1, none⟩ = some (.slice Ax (dO ++ pre.filter (freshB dO)).length cx)) := Lib.hid fun wK hBK => by
                  have hBK' : Below W.heap.size W wK := bAfter ((Below.refl _ _).drew) hBK
                  exact ⟨hBK', (HI.out.mp.below hBK').cell 0, (HB1.out.below hBK').cell 1⟩
                generalize hNN : dO ++ pre.filter (freshB dO) = N at *
                have HNN := Lib.hid hNN
                clear hNN
                cases hin : bOf (T ∈ dO.map (·.2)) with
                | true =>
                  have HIN := Lib.hid hin
                  clear hin
                  gi_wp2_with fail
                  gi_region_with_o (gi_at_call 42; refine (CallsIn.inRound lp ((callsIn_wide).2 (key_any (.slice Au T.length cu) T _ HLS.out HTW.out (by omega) HTBW.out))).mono ?_; rintro e wK ⟨rfl, hBK⟩; have hb := HMM.out wK hBK; have hBK' := hb.1; have k0 := hb.2.1; have hlk := keyF_look (HI.out.m.up hBK') HKL.out HIN.out; clear hb)
                  all_goals (
                    have HRS := Lib.hid (HI.out.skip (u := .slice Au T.length cu) hBK' HIN.out wB.heap.size)
                    clear hlk k0 d0 d1
                    gi_wp2_with fail
                    exact HRS.out)
                | false =>
                  have HIN := Lib.hid hin
                  clear hin
                  gi_wp2_with fail
                  gi_region_with_o (gi_at_call 42; refine (CallsIn.inRound lp ((callsIn_wide).2 (key_any (.slice Au T.length cu) T _ HLS.out HTW.out (by omega) HTBW.out))).mono ?_; rintro e wK ⟨rfl, hBK⟩; have hb := HMM.out wK hBK; have hBK' := hb.1; have k0 := hb.2.1; have k1 := hb.2.2; have hlk := keyF_look (HI.out.m.up hBK') HKL.out HIN.out; clear hb)
                  all_goals (
                    clear hlk k0 d0
                    have HRK := Lib.hid (own_up HR2.out hBK')
                    have hsK := hBK'.size
                    gi_wp2_with (gi_at_builtin; refine wpListIn_append_own_at _ rfl _ _ 22 rfl (w.heap.size + 2) 23 i0 (.slice none 0 0) 1 24 Tryz.underlying22 hi hz0 hz1 hz2 rfl (by decide) _ _ _ rfl (HRK.out.alloc _) ⟨wK.heap.size, 0, none⟩ 1 1 [.slice Au T.length cu] rfl rfl ?c1 ?c2 ?c3 ?c4 ?c5 ?_)
                    case c1 => exact new1 _ _ rfl _ _
                    case c2 => exact one_of_form ⟨_, _, _, rfl⟩
                    case c3 => simp only [maxLen]; omega
                    case c4 => omega
                    case c5 => simp; omega
                    intro v4 W4 hown hgrow _ hat
                    obtain ⟨A4, c4, hf4⟩ := own_form hown
                    subst hf4
                    obtain ⟨⟨e1, e2⟩, hRS⟩ := HI.out.add hBK' HIN.out HL.out (by omega) (by omega) (by omega) d1 (by rw [HNN.out]) (by rw [HNN.out]) hown hgrow (by simpa using hat) wB.heap.size
                    have HRS := Lib.hid hRS
                    clear hRS hown hgrow hat d1 k1
                    gi_wp2_with fail
                    exact HRS.out)
              case done =>
                clear HR0 HBO HBS hBB
                intro D ys W hD hS hI hK
                obtain ⟨vO, hG, hz1, hz2⟩ := hI.row
                have hNM := fresh_map HTL.out hS
                generalize dO ++ ys.filter (freshB dO) = N at *
                obtain ⟨Ax, cx, hvx⟩ := own_form hG.rO.1
                subst hvx
                have HGD := Lib.hid hG
                have HNM := Lib.hid hNM
                have HKD := Lib.hid hK
                have e1 : W.cell? ⟨w.heap.size + 1, 1, none⟩ = some (.slice Ax N.length cx) := hG.b1.cell 1
                have e3 : W.cell? ⟨w.heap.size + 1, 3, none⟩ = some (.bool false) := hG.b1.cell 3
                have y3 := hG.b1.frozen 3
                have e0 : W.cell? ⟨w.heap.size + 1, 0, none⟩ = some (.slice A2 psF2.length c2) := hG.b1.cell 0
                have e2 : W.cell? ⟨w.heap.size + 1, 2, none⟩ = some (.int .i64 (s.sp + 1)) := hG.b1.cell 2
                have y0 := hG.b1.frozen 0
                have y1 := hG.b1.frozen 1
                have y2 := hG.b1.frozen 2
                obtain ⟨b, hb⟩ : ∃ b, decide (N.length = 0) = b := ⟨_, rfl⟩
                have q9 : ((N.length : Int) == 0) = b := by rw [← hb]; by_cases h : N.length = 0 <;> simp [h]
                have HBB := Lib.hid hb
                clear hb hG hNM hK hI hS hz1 hz2
                go_wp2_with fail
                have hf := give_fin HGD.out b
                refine give_outD (s' := giveS s t false) (vF := .slice A2 psF2.length c2) (vO := .slice Ax N.length cx) (D := D) hf.1 ?_ ?_ ?_ hf.2.2 (by omega) ((set4_ne (by omega)).trans ((heap_set_ne _ _ _ (by simp only; omega)).trans HKD.out)) (.inr (.inr ⟨HGOOD.out, HROOM.out, rfl, rfl⟩)) ?_ ?_ ?_
                · have hl : N.length = (s.O.tail ++ newO s.O.tail z t).length := by rw [← HNM.out, List.length_map]
                  simp only [giveS, HZH.out, ← hl, HBB.out, Bool.false_eq_true, if_false]
                · have := hf.2.1.1; rw [HF2.out] at this
                  simpa only [giveS, Bool.false_eq_true, if_false] using this
                · have := hf.2.1.2; rw [HNM.out] at this
                  simpa only [giveS, HZH.out, Bool.false_eq_true, if_false] using this
                · rfl
                · rfl
                · rfl
end Go.Proofs.YtbmdfnifbimfmaaGreatDoor
