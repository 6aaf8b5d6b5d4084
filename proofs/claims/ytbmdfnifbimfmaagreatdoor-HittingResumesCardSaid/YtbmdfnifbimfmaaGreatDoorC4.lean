/- Walks: place. -/
import Derived.Test.YtbmdfnifbimfmaaGreatDoorC3
namespace Go.Proofs.YtbmdfnifbimfmaaGreatDoor
open Go.RowKit Go.Shelf

def PlaceBad (F : List (List Int)) (z t : List Int) : Prop := ¬ Valid t ∨ Meet t z ∨ ∃ f ∈ F, PSub f t ∨ PSub t f
def PlacePost (F : List (List Int)) (z t : List Int) (w : World) (e : Ending) (w' : World) : Prop :=
  Below w.heap.size w w' ∧ ((PlaceBad F z t ∧ e = .returned (.tuple #[.int .i64 0, .bool false, .int .i64 1])) ∨ (¬ PlaceBad F z t ∧ t ∉ F ∧ 256 ≤ F.length ∧ e = .returned (.tuple #[.int .i64 0, .bool false, .int .i64 2])) ∨
    (¬ PlaceBad F z t ∧ (t ∈ F ∨ F.length < 256) ∧ e = .returned (.tuple #[.int .i64 (rank F t), .bool (bOf (t ∈ F)), .int .i64 0])))

set_option maxRecDepth 100000 in
set_option maxHeartbeats 4000000 in
theorem place_any (v tv : Value) (s : Sr) (z t : List Int) (w : World) (h : SrV w v s) (ht : SI w tv t) (hwt : ∀ x ∈ t, wfI x) (htl : t.length ≤ 1000000) (hok : SrOk s) (hz : s.O[0]? = some z) : Calls Tryz.prog 39 #[v, tv] w (PlacePost s.F z t w) := by
  obtain ⟨vF, vO, rfl, hF, hO⟩ := h
  obtain ⟨AF, cF, rfl, _, _, hAF⟩ := hF.form
  obtain ⟨AO, cO, rfl, _, _, hAO⟩ := hO.form
  obtain ⟨At, ct, rfl⟩ := SI.slice_form ht
  obtain ⟨W1, hW1⟩ : ∃ W1, w.alloc (.cells #[.slice AF s.F.length cF, .slice AO s.O.length cO, .int .i64 s.sp, .bool s.dn] 36) = W1 := ⟨_, rfl⟩
  have hB1 : Below w.heap.size w W1 := by rw [← hW1]; exact (Below.refl _ _).alloc (Nat.le_refl _) _
  have hb : Blk W1 w.heap.size 36 #[.slice AF s.F.length cF, .slice AO s.O.length cO, .int .i64 s.sp, .bool s.dn] := by rw [← hW1]; exact Blk.new _ _ _
  have c0 : W1.cell? ⟨w.heap.size, 0, none⟩ = some (.slice AF s.F.length cF) := hb.cell 0
  have c1 : W1.cell? ⟨w.heap.size, 1, none⟩ = some (.slice AO s.O.length cO) := hb.cell 1
  have hwl : w.heap.size < W1.heap.size := hb.lt
  have hO0 : 0 < s.O.length := (List.getElem?_eq_some_iff.1 hz).1
  obtain ⟨bO, oO, rfl, hbO, hcO⟩ := hAO hO0
  obtain ⟨uz, dz, hzu⟩ := hcO 0 z hz
  obtain ⟨Az, cz, rfl⟩ := SI.slice_form hzu
  have d0 : W1.cell? ⟨bO, oO, none⟩ = some (.slice Az z.length cz) := (hB1.cell (p := ⟨bO, oO, none⟩) hbO).trans dz
  have q1 : (0 : Int) < (s.O.length : Int) := by omega
  have HZ := Lib.hid (hzu.up hB1)
  have HT := Lib.hid (ht.up hB1)
  have HF := Lib.hid (hF.up hB1)
  have HAF := Lib.hid hAF
  have HB := Lib.hid hB1
  have HWT := Lib.hid hwt
  have HOK := Lib.hid hok
  have HZV : Hid (Valid z) := Lib.hid (hok.vO z (List.mem_of_getElem? hz))
  have hFl := hok.lF
  clear hF hO hAF hAO hB1 hb ht hwt hok hz hcO dz hzu
  go_enter Tryz.func39, Tryz.ntmps39
  cases hv : bOf (Valid t) with
  | false =>
    have HV := Lib.hid hv
    clear hv
    go_wp2_with fail
    refine (validSet_eq _ t _ HT.out HV.out).mono ?_
    rintro e w2 ⟨rfl, rfl⟩
    go_wp2_with fail
    go_ret3
    exact ⟨HB.out, .inl ⟨.inl (bOf_false_iff.1 HV.out), rfl⟩⟩
  | true =>
    have HV := Lib.hid hv
    have HVT := Lib.hid (bOf_iff.1 hv)
    clear hv
    go_wp2_with fail
    refine (validSet_eq _ t _ HT.out HV.out).mono ?_
    rintro e w2 ⟨rfl, rfl⟩
    go_wp2_with fail
    cases hm : bOf (Meet t z) with
    | true =>
      have HM := Lib.hid hm
      clear hm
      refine (meets_eq _ _ t z _ HT.out HZ.out HWT.out (fun x hx => ?hw) htl HM.out).mono ?_
      case hw => have := HZV.out.1 x hx; exact wfI_of (by omega) (by omega)
      rintro e w2 ⟨rfl, hB2⟩
      have HB2 := Lib.hid (bAfter HB.out hB2)
      clear hB2
      go_wp2_with fail
      go_ret3
      exact ⟨HB2.out, .inl ⟨.inr (.inl (bOf_iff.1 HM.out)), rfl⟩⟩
    | false =>
      have HM := Lib.hid hm
      clear hm
      refine (meets_eq _ _ t z _ HT.out HZ.out HWT.out (fun x hx => ?hw) htl HM.out).mono ?_
      case hw => have := HZV.out.1 x hx; exact wfI_of (by omega) (by omega)
      rintro e w2 ⟨rfl, hB2⟩
      have HB2 := Lib.hid (bAfter HB.out hB2)
      have e0 : w2.cell? ⟨w.heap.size, 0, none⟩ = some (.slice AF s.F.length cF) := (hB2.cell (p := ⟨w.heap.size, 0, none⟩) hwl).trans c0
      have HT2 := Lib.hid (HT.out.up hB2)
      have HF2 := Lib.hid (HF.out.up hB2)
      have HB12 := Lib.hid hB2
      clear hB2 c0 c1 d0
      go_wp2_with fail
      go_loop [23] (fun i => ∃ k : Nat, k ≤ s.F.length ∧ i = .int .i64 k ∧ Hid (∀ f ∈ s.F.take k, ¬ PSub f t ∧ ¬ PSub t f)) (fun i => s.F.length - (intOf i).toNat)
      case atStart => exact ⟨0, Nat.zero_le _, rfl, Lib.hid (fun _ h => by cases h)⟩
      case round =>
        obtain ⟨k, hk, rfl, HR⟩ := hrel
        by_cases hlt : k < s.F.length
        · obtain ⟨A2, c2, hf2, _, _, hA2⟩ := HF2.out.form
          obtain ⟨hAA, hcc⟩ : A2 = AF ∧ c2 = cF := by injection hf2 with h1 h2 h3; exact ⟨h1.symm, h3.symm⟩
          subst hAA hcc
          obtain ⟨b1, o1, rfl, hb1, hcell⟩ := hA2 (by omega)
          obtain ⟨f, hf⟩ := get_some hlt
          obtain ⟨u, d1, hu⟩ := hcell k f hf
          obtain ⟨Au, cu, rfl⟩ := SI.slice_form hu
          have HU := Lib.hid hu
          have HFK := Lib.hid hf
          have HFV : Hid (Valid f) := Lib.hid (HOK.out.vF f (List.mem_of_getElem? hf))
          clear hf2 hA2 hcell hu hf
          cases hp1 : bOf (PSub f t) with
          | true =>
            have HP := Lib.hid hp1
            clear hp1
            go_wp2_with fail
            refine (properly_eq _ _ f t _ HU.out HT2.out HFV.out.2 HVT.out.2 HP.out).mono ?_
            rintro e w3 ⟨rfl, rfl⟩
            go_wp2_with fail
            go_ret3
            exact ⟨HB2.out, .inl ⟨.inr (.inr ⟨f, List.mem_of_getElem? HFK.out, .inl (bOf_iff.1 HP.out)⟩), rfl⟩⟩
          | false =>
            have HP := Lib.hid hp1
            clear hp1
            go_wp2_with fail
            refine (properly_eq _ _ f t _ HU.out HT2.out HFV.out.2 HVT.out.2 HP.out).mono ?_
            rintro e w3 ⟨rfl, rfl⟩
            go_wp2_with fail
            cases hp2 : bOf (PSub t f) with
            | true =>
              have HP2 := Lib.hid hp2
              clear hp2
              refine (properly_eq _ _ t f _ HT2.out HU.out HVT.out.2 HFV.out.2 HP2.out).mono ?_
              rintro e w3 ⟨rfl, rfl⟩
              go_wp2_with fail
              go_ret3
              exact ⟨HB2.out, .inl ⟨.inr (.inr ⟨f, List.mem_of_getElem? HFK.out, .inr (bOf_iff.1 HP2.out)⟩), rfl⟩⟩
            | false =>
              have HP2 := Lib.hid hp2
              clear hp2
              refine (properly_eq _ _ t f _ HT2.out HU.out HVT.out.2 HFV.out.2 HP2.out).mono ?_
              rintro e w3 ⟨rfl, rfl⟩
              go_wp2_with fail
              go_round
              case rel => exact ⟨k + 1, by omega, by go_num, Lib.hid (fun g hg => by
                            rw [take_snoc HFK.out] at hg
                            rcases List.mem_append.1 hg with hg | hg
                            · exact HR.out g hg
                            · rw [List.mem_singleton.1 hg]; exact ⟨bOf_false_iff.1 HP.out, bOf_false_iff.1 HP2.out⟩)⟩
              case measure => simp [intOf]; omega
        · obtain rfl : k = s.F.length := by omega
          have HNB : Hid (¬ PlaceBad s.F z t) := Lib.hid (by
            have hr := HR.out
            rw [List.take_length] at hr
            rintro (h | h | ⟨f, hf, h⟩)
            · exact h HVT.out
            · exact bOf_false_iff.1 HM.out h
            · rcases h with h | h
              · exact (hr f hf).1 h
              · exact (hr f hf).2 h)
          have HSO : Hid (s.F.Pairwise ltS) := Lib.hid (HOK.out.fok.imp fun h => h.1)
          clear HR
          go_wp2_with fail
          refine (bsearch_any _ _ s.F t _ HF2.out HT2.out HSO.out (by omega)).mono ?_
          rintro e w3 ⟨rfl, rfl⟩
          cases hin : bOf (t ∈ s.F) with
          | true =>
            have HIN := Lib.hid hin
            clear hin
            go_wp2_with fail
            go_ret3
            exact ⟨HB2.out, .inr (.inr ⟨HNB.out, .inl (bOf_iff.1 HIN.out), by rw [HIN.out]; rfl⟩)⟩
          | false =>
            have HIN := Lib.hid hin
            clear hin
            by_cases h256 : 256 ≤ s.F.length
            · have q : decide ((256 : Int) ≤ (s.F.length : Int)) = true := by simp; omega
              go_wp2_with fail
              go_ret3
              exact ⟨HB2.out, .inr (.inl ⟨HNB.out, bOf_false_iff.1 HIN.out, h256, rfl⟩)⟩
            · have q : decide ((256 : Int) ≤ (s.F.length : Int)) = false := by simp; omega
              go_wp2_with fail
              go_ret3
              exact ⟨HB2.out, .inr (.inr ⟨HNB.out, .inr (by omega), by rw [HIN.out]; rfl⟩)⟩
end Go.Proofs.YtbmdfnifbimfmaaGreatDoor
