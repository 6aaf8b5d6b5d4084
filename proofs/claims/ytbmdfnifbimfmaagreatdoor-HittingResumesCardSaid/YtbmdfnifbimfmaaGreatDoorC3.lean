/- Walks: slices.BinarySearchFunc with compare, Begin, Next. -/
import Derived.Test.YtbmdfnifbimfmaaGreatDoorC1
import Derived.WalkSpells
namespace Go.Proofs.YtbmdfnifbimfmaaGreatDoor
open Go.RowKit Go.Shelf

/-- How many lists of F come ahead of t. -/
noncomputable def rank (F : List (List Int)) (t : List Int) : Nat := F.countP fun x => bOf (ltS x t)
theorem rank_eq {F : List (List Int)} {t : List Int} {k : Nat} (hk : k ≤ F.length) (h1 : ∀ x ∈ F.take k, ltS x t) (h2 : ∀ x ∈ F.drop k, ¬ ltS x t) : rank F t = k := by
  unfold rank
  have : F = F.take k ++ F.drop k := (List.take_append_drop k F).symm
  rw [this, List.countP_append, List.countP_eq_length.2 (fun x hx => bOf_true (h1 x hx)), List.countP_eq_zero.2 (fun x hx => by rw [bOf_false (h2 x hx)]; decide), List.length_take]
  omega

set_option maxRecDepth 100000 in
set_option maxHeartbeats 2000000 in
theorem bsearch_any (v tv : Value) (F : List (List Int)) (t : List Int) (w : World) (h : SS w v F) (ht : SI w tv t) (hs : F.Pairwise ltS) (hl : F.length ≤ 1000000) :
    Calls Tryz.prog 58 #[v, tv, .func (.func 36) #[] #[]] w fun e w' => e = .returned (.tuple #[.int .i64 (rank F t), .bool (bOf (t ∈ F))]) ∧ w = w' := by
  obtain ⟨AF, cF, rfl, hcF, hmF, hAF⟩ := h.form
  obtain ⟨At, ct, rfl⟩ := SI.slice_form ht
  have HA := Lib.hid hAF
  have HT := Lib.hid ht
  have HS := Lib.hid hs
  clear hAF h ht hs hmF
  go_enter Tryz.func58, Tryz.ntmps58
  go_wp2_with fail
  go_loop [9, 10] (fun iv jv => ∃ i j : Nat, i ≤ j ∧ j ≤ F.length ∧ iv = .int .i64 i ∧ jv = .int .i64 j ∧ Hid (∀ x ∈ F.take i, ltS x t) ∧ Hid (∀ x ∈ F.drop j, ¬ ltS x t)) (fun iv jv => (intOf jv).toNat - (intOf iv).toNat)
  case atStart => exact ⟨0, F.length, Nat.zero_le _, Nat.le_refl _, rfl, rfl, Lib.hid (fun _ h => by cases h), Lib.hid (fun x h => by rw [List.drop_length] at h; cases h)⟩
  case round =>
    obtain ⟨i, j, hij, hj, rfl, rfl, H1, H2⟩ := hrel
    by_cases hlt : i < j
    · have q0 : decide ((i : Int) < (j : Int)) = true := by simp; omega
      obtain ⟨m, hm, him, hmj⟩ : ∃ m : Nat, ((i : Int) + (j : Int)) / 2 = (m : Int) ∧ i ≤ m ∧ m < j := ⟨(i + j) / 2, by omega, by omega, by omega⟩
      obtain ⟨b1, o1, rfl, hb1, hcell⟩ := HA.out (by omega)
      obtain ⟨x, hx⟩ := get_some (l := F) (k := m) (by omega)
      obtain ⟨u, d0, hu⟩ := hcell m x hx
      obtain ⟨Au, cu, rfl⟩ := SI.slice_form hu
      have HU := Lib.hid hu
      have HX := Lib.hid hx
      have q1 : (0 : Int) ≤ (m : Int) := by omega
      have q2 : (m : Int) < (F.length : Int) := by omega
      clear hcell hu hx
      go_wp2_with fail
      refine (compare_any _ _ x t _ HU.out HT.out).mono ?_
      rintro e w2 ⟨rfl, rfl⟩
      by_cases hxt : ltS x t
      · have q3 : decide (cmpS x t < 0) = true := by unfold ltS at hxt; simp [hxt]
        go_wp2_with fail
        go_round
        case rel => exact ⟨m + 1, j, by omega, hj, by go_num, rfl, Lib.hid (fun y hy => by
                      rw [take_snoc HX.out] at hy
                      rcases List.mem_append.1 hy with hy | hy
                      · obtain ⟨q, hq, rfl⟩ := List.mem_take_iff_getElem.1 hy
                        have hml := (List.getElem?_eq_some_iff.1 HX.out)
                        obtain ⟨hml, hxe⟩ := hml
                        have := List.pairwise_iff_getElem.1 HS.out q m (by omega) hml (by omega)
                        rw [hxe] at this
                        exact ltS_trans this hxt
                      · rw [List.mem_singleton.1 hy]; exact hxt), H2⟩
        case measure => simp [intOf]; omega
      · have q3 : decide (cmpS x t < 0) = false := by unfold ltS at hxt; simp; omega
        go_wp2_with fail
        go_round
        case rel => exact ⟨i, m, him, by omega, rfl, by go_num, H1, Lib.hid (fun y hy => by
                      rw [drop_cons HX.out] at hy
                      rcases List.mem_cons.1 hy with rfl | hy
                      · exact hxt
                      · intro hyt
                        obtain ⟨q, hq, rfl⟩ := List.getElem_of_mem hy
                        rw [List.length_drop] at hq
                        rw [List.getElem_drop] at hyt
                        obtain ⟨hml, hxe⟩ := List.getElem?_eq_some_iff.1 HX.out
                        have := List.pairwise_iff_getElem.1 HS.out m (m + 1 + q) hml (by omega) (by omega)
                        rw [hxe] at this
                        exact hxt (ltS_trans this hyt))⟩
        case measure => simp [intOf]; omega
    · obtain rfl : i = j := by omega
      have q0 : decide ((i : Int) < (i : Int)) = false := by simp
      have HRK : Hid (rank F t = i) := Lib.hid (rank_eq hj H1.out H2.out)
      by_cases hin : i < F.length
      · have q1 : decide ((i : Int) < (F.length : Int)) = true := by simp; omega
        obtain ⟨b1, o1, rfl, hb1, hcell⟩ := HA.out (by omega)
        obtain ⟨x, hx⟩ := get_some hin
        obtain ⟨u, d0, hu⟩ := hcell i x hx
        obtain ⟨Au, cu, rfl⟩ := SI.slice_form hu
        have HU := Lib.hid hu
        have HX := Lib.hid hx
        have q2 : (0 : Int) ≤ (i : Int) := by omega
        have q3 : (i : Int) < (F.length : Int) := by omega
        clear hcell hu hx
        have HIFF : Hid (t ∈ F ↔ x = t) := Lib.hid (by
          constructor
          · intro htF
            have : t ∈ F.take i ++ F.drop i := by rw [List.take_append_drop]; exact htF
            rcases List.mem_append.1 this with h | h
            · exact absurd (H1.out t h) (ltS_irrefl t)
            · rw [drop_cons HX.out] at h
              rcases List.mem_cons.1 h with h | h
              · exact h.symm
              · obtain ⟨q, hq, he⟩ := List.getElem_of_mem h
                rw [List.length_drop] at hq
                rw [List.getElem_drop] at he
                obtain ⟨hml, hxe⟩ := List.getElem?_eq_some_iff.1 HX.out
                have := List.pairwise_iff_getElem.1 HS.out i (i + 1 + q) hml (by omega) (by omega)
                rw [hxe, he] at this
                exact absurd this (H2.out x (by rw [drop_cons HX.out]; simp))
          · rintro rfl; exact List.mem_of_getElem? HX.out)
        go_wp2_with fail
        refine (compare_any _ _ x t _ HU.out HT.out).mono ?_
        rintro e w2 ⟨rfl, rfl⟩
        by_cases hxt : x = t
        · have q4 : (cmpS x t == 0) = true := by rw [cmpS_zero.2 hxt]; rfl
          have q5 : decide (cmpS x t = 0) = true := by rw [cmpS_zero.2 hxt]; rfl
          have HB : Hid (bOf (t ∈ F) = true) := Lib.hid (bOf_true (HIFF.out.2 hxt))
          clear hxt
          go_wp2_with fail
          go_ret2
          exact ⟨by rw [HRK.out, HB.out]; rfl, rfl⟩
        · have hne : cmpS x t ≠ 0 := fun h => hxt (cmpS_zero.1 h)
          have q4 : (cmpS x t == 0) = false := by simp [hne]
          have q5 : decide (cmpS x t = 0) = false := by simp [hne]
          have HB : Hid (bOf (t ∈ F) = false) := Lib.hid (bOf_false fun h => hxt (HIFF.out.1 h))
          clear hxt
          go_wp2_with fail
          go_ret2
          exact ⟨by rw [HRK.out, HB.out]; rfl, rfl⟩
      · obtain rfl : i = F.length := by omega
        have HB : Hid (bOf (t ∈ F) = false) := Lib.hid (bOf_false fun h => by
          have := H1.out t (by rw [List.take_length]; exact h)
          exact ltS_irrefl t this)
        go_wp2_with fail
        go_ret2
        exact ⟨by rw [HRK.out, HB.out]; rfl, rfl⟩

/-! ### Begin, Next -/
theorem info36s : (Tryz.prog.info? 36).map (·.size) = some 4 := by kernel_rfl
theorem Begin_any (w : World) : Calls Tryz.prog 26 #[] w fun e w' => ∃ v, e = .returned v ∧ SrV w' v ⟨[], [[]], 0, false⟩ ∧ Below w.heap.size w w' := by
  go_enter Tryz.func26, Tryz.ntmps26
  go_wp2_with fail
  have hb := ((Blk.new w 36 #[.slice none 0 0, .slice (some ⟨w.heap.size + 1 + 1, 0, none⟩) 1 1, .int .i64 0, .bool false]).alloc (.cells #[] 3)).alloc (.cells #[.slice (some ⟨w.heap.size + 1, 0, none⟩) 0 0] 23)
  refine bodyPost_ret (results_cell_row rfl _ _ _ _ _ _ _ rfl hb Tryz.underlying36 rfl info36s) rfl ?_
  have e1 : (w.alloc (.cells #[.slice none 0 0, .slice (some ⟨w.heap.size + 1 + 1, 0, none⟩) 1 1, .int .i64 0, .bool false] 36)).heap.size = w.heap.size + 1 := by simp
  have e2 : ((w.alloc (.cells #[.slice none 0 0, .slice (some ⟨w.heap.size + 1 + 1, 0, none⟩) 1 1, .int .i64 0, .bool false] 36)).alloc (.cells #[] 3)).heap.size = w.heap.size + 1 + 1 := by simp
  refine ⟨_, rfl, ⟨_, _, rfl, SS.nil _, ⟨[(.slice (some ⟨w.heap.size + 1, 0, none⟩) 0 0, [])], rfl, S1.lit _ _ e2.symm _ _ _ _ _ rfl rfl (by simp [maxLen]), fun p hp => ?_⟩⟩, ?_⟩
  · rw [List.mem_singleton.1 hp]
    exact S1.mk (l := ([] : List Int)) (Nat.le_refl _) (by simp [maxLen]) (fun h => by simp at h)
  · exact (((Below.refl _ w).alloc (Nat.le_refl _) _).alloc (by rw [e1]; omega) _).alloc (by rw [e2]; omega) _

theorem Next_any (v : Value) (s : Sr) (w : World) (h : SrV w v s) (hl : ∀ l ∈ s.O, l.length ≤ 1000000) : Calls Tryz.prog 46 #[v] w fun e w' => ∃ u out, e = .returned (.tuple #[u, .bool (decide (s.O.length ≠ 0))]) ∧ SI w' u out ∧ out = s.O.headD [] ∧ Below w.heap.size w w' := by
  obtain ⟨vF, vO, rfl, hF, hO⟩ := h
  obtain ⟨AF, cF, rfl, _⟩ := hF.form
  obtain ⟨AO, cO, rfl, _, _, hAO⟩ := hO.form
  obtain ⟨W1, hW1⟩ : ∃ W1, w.alloc (.cells #[.slice AF s.F.length cF, .slice AO s.O.length cO, .int .i64 s.sp, .bool s.dn] 36) = W1 := ⟨_, rfl⟩
  have hB1 : Below w.heap.size w W1 := by rw [← hW1]; exact (Below.refl _ _).alloc (Nat.le_refl _) _
  have hb : Blk W1 w.heap.size 36 #[.slice AF s.F.length cF, .slice AO s.O.length cO, .int .i64 s.sp, .bool s.dn] := by rw [← hW1]; exact Blk.new _ _ _
  have c1 : W1.cell? ⟨w.heap.size, 1, none⟩ = some (.slice AO s.O.length cO) := hb.cell 1
  have HA := Lib.hid hAO
  have HB := Lib.hid hB1
  have HL := Lib.hid hl
  clear hF hO hAO hB1 hb hl
  go_enter Tryz.func46, Tryz.ntmps46
  by_cases h0 : s.O.length = 0
  · have q : ((s.O.length : Int) == 0) = true := by simp [h0]
    have H0 := Lib.hid h0
    clear h0
    go_wp2_with fail
    go_ret2
    refine ⟨_, [], by simp [H0.out], S1.nil _ _, ?_, HB.out⟩
    rw [List.eq_nil_of_length_eq_zero H0.out]; rfl
  · have q : ((s.O.length : Int) == 0) = false := by rw [beq_eq_false_iff_ne]; omega
    have q1 : (0 : Int) < (s.O.length : Int) := by omega
    obtain ⟨b1, o1, rfl, hb1, hcell⟩ := HA.out (by omega)
    obtain ⟨z, hz⟩ := get_some (l := s.O) (k := 0) (by omega)
    obtain ⟨uz, dz, hzu⟩ := hcell 0 z hz
    obtain ⟨Az, cz, rfl⟩ := SI.slice_form hzu
    have d0 : W1.cell? ⟨b1, o1, none⟩ = some (.slice Az z.length cz) := (HB.out.cell (p := ⟨b1, o1, none⟩) hb1).trans dz
    have HZ := Lib.hid (hzu.up HB.out)
    have HZH : Hid (z = s.O.headD [] ∧ z.length ≤ 1000000) := Lib.hid (by
      refine ⟨?_, HL.out z (List.mem_of_getElem? hz)⟩
      cases hO : s.O with
      | nil => rw [hO] at hz; cases hz
      | cons a r => rw [hO] at hz; simp at hz; simp [hz])
    clear hcell hz dz hzu
    go_wp2_with fail
    refine (cloneS_any _ z _ HZ.out HZH.out.2).mono ?_
    rintro e w2 ⟨u, rfl, hu, hB2⟩
    have HU := Lib.hid (own_S1 (f := iV) hu)
    have HB2 := Lib.hid (bAfter HB.out hB2)
    clear hu hB2
    go_wp2_with fail
    go_ret2
    exact ⟨_, z, by simp [h0], HU.out, HZH.out.1, HB2.out⟩
end Go.Proofs.YtbmdfnifbimfmaaGreatDoor
