/- HittingDual: the walk. -/
import Derived.Test.YtbmdfnifbimfmaaGreatDoorLt
import Derived.Test.YtbmdfnifbimfmaaGreatDoorR8
import Derived.Test.YtbmdfnifbimfmaaGreatDoorRT
import Derived.Test.YtbmdfnifbimfmaaGreatDoorPD
namespace Go.Proofs.YtbmdfnifbimfmaaGreatDoor
open Go.RowKit Go.Shelf

theorem okMost_256 {L : List (List Int)} : okMost L 256 ↔ ValidAll L := ⟨fun h => h.1, fun h => ⟨h, by decide, by decide⟩⟩
theorem isAll_len {L N : List (List Int)} (h : IsAll L N) : ∀ x ∈ N, x.length ≤ L.length := fun x hx => by
  have h2 : IsAll L (trL L) := by have := trL_all L L.length (Nat.le_refl _); rwa [List.take_length] at this
  rw [h.unique h2] at hx
  exact trL_elen L L.length (Nat.le_refl _) x (by rwa [List.take_length])
theorem mhs_wf {L : List (List Int)} (hw : wfS L) {T : List Int} (h : MHS L T) : ∀ x ∈ T, wfI x := fun x hx => by
  obtain ⟨s, hs, hxs, _⟩ := h.2.2 x hx
  exact hw s hs x hxs
theorem wf_less {T : List Int} (h : ∀ x ∈ T, wfI x) (i : Nat) : ∀ x ∈ T.take i ++ T.drop (i + 1), wfI x := fun x hx => by
  rcases List.mem_append.1 hx with h' | h'
  · exact h x (List.mem_of_mem_take h')
  · exact h x (List.mem_of_mem_drop h')

set_option maxRecDepth 100000 in
set_option maxHeartbeats 8000000 in
theorem dual_any (v0 : Value) (L : List (List Int)) (W : World) (h0 : SS W v0 L) (hw0 : wfS L) (hT : Tab W) :
    Calls Tryz.prog 5 #[v0] W fun e W' => e = .returned (.bool true) ∧ Below W.heap.size W W' := by
  obtain ⟨A0, c0, rfl, _⟩ := h0.form
  have H0 := Lib.hid h0
  have HW0 := Lib.hid hw0
  have HT := Lib.hid hT
  clear h0 hT hw0
  go_enter Tryz.func5, Tryz.ntmps5
  go_wp2_with fail
  refine (sane_any W HT.out).mono ?_
  rintro e w1 ⟨rfl, hB1⟩
  go_wp2_with fail
  cases hf : bOf (Tame L) with
  | false =>
    refine (tame_eq _ L _ (H0.out.up hB1) hf).mono ?_
    rintro e w2 ⟨rfl, rfl⟩
    clear hf
    go_wp2_with fail
    go_ret
    exact ⟨rfl, hB1⟩
  | true =>
    have HF := Lib.hid (bOf_iff.1 hf)
    refine (tame_eq _ L _ (H0.out.up hB1) hf).mono ?_
    rintro e w2 ⟨rfl, rfl⟩
    clear hf
    have hl12 : L.length ≤ 12 := HF.out.1.1
    have HLL : Hid (∀ l ∈ L, l.length ≤ 1000000) := Lib.hid fun l hl => Nat.le_trans (HF.out.1.2 l hl) (by decide)
    go_wp2_with fail
    refine (All_any _ L 256 _ (H0.out.up hB1) (by omega) (HT.out.up hB1)).mono ?_
    rintro e w2 ⟨v2, N, c, rfl, hs2, hB2, hm2⟩
    have HS2 := Lib.hid hs2
    have HBa := Lib.hid (bAfter hB1 hB2)
    clear hs2 hB2
    rcases hm2 with ⟨hno, rfl, rfl⟩ | ⟨hok, hall, hle, rfl⟩ | ⟨hok, rfl, rfl, _⟩
    · have HNO := Lib.hid hno
      clear hno
      go_wp2_with fail
      refine (Minimal_c _ L _ (H0.out.up HBa.out) (by omega) HLL.out (HT.out.up HBa.out)).mono ?_
      rintro e w3 ⟨v3, M, c, rfl, hs3, hm3, _, hB3⟩
      obtain rfl : c = 1 := by
        rcases hm3 with ⟨h, _⟩ | ⟨_, _, h⟩
        · exact absurd (okMost_256.2 h) HNO.out
        · exact h
      have HBb := Lib.hid (bAfter HBa.out hB3)
      clear hs3 hm3 hB3
      go_wp2_with fail
      go_ret
      exact ⟨by simp, HBb.out⟩
    · have HOK := Lib.hid (okMost_256.1 hok)
      have HALL := Lib.hid hall
      clear hok hall
      go_wp2_with fail
      refine (Minimal_c _ L _ (H0.out.up HBa.out) (by omega) HLL.out (HT.out.up HBa.out)).mono ?_
      rintro e w3 ⟨v3, M, c, rfl, hs3, hm3, hml, hB3⟩
      obtain ⟨hmin, rfl⟩ : IsMin L M ∧ c = 0 := by
        rcases hm3 with ⟨_, h, hc⟩ | ⟨h, _⟩
        · exact ⟨h, hc⟩
        · exact absurd HOK.out h
      have HBb := Lib.hid (bAfter HBa.out hB3)
      have HS3 := Lib.hid hs3
      have HMIN := Lib.hid hmin
      have HSN := Lib.hid (HS2.out.up hB3)
      clear hs3 hm3 hB3 hmin HS2
      obtain ⟨An, cn, hvn, hcn, hmn, hAn⟩ := HSN.out.form
      subst hvn
      have HAN := Lib.hid hAn
      clear hAn hmn hcn
      have HNL : Hid (∀ x ∈ N, x.length ≤ 12) := Lib.hid fun x hx => Nat.le_trans (isAll_len HALL.out x hx) hl12
      go_wp2_with fail
      go_loopw [38] (fun i wr => ∃ k : Nat, k ≤ N.length ∧ i = .int .i64 k ∧ Below w3.heap.size w3 wr) (fun i _ => N.length - (intOf i).toNat)
      case atStart => exact ⟨0, Nat.zero_le _, rfl, Below.refl _ _⟩
      case round =>
        obtain ⟨k, hk, rfl, hB⟩ := hrel
        have HB := Lib.hid hB
        by_cases hlt : k < N.length
        · obtain ⟨b1, o1, hAe, hb1, hcell⟩ := HAN.out (by omega)
          subst hAe
          obtain ⟨x, hx⟩ := get_some hlt
          obtain ⟨u, d0, hu⟩ := hcell k x hx
          obtain ⟨Au, cu, rfl⟩ := SI.slice_form hu
          have d1 := (hB.cell (p := ⟨b1, o1 + k, none⟩) hb1).trans d0
          have HU := Lib.hid (S1.up hu hB)
          have hxN := List.mem_of_getElem? hx
          have HMH := Lib.hid ((HALL.out.2 x).1 hxN)
          have hxl := HNL.out x hxN
          have HWX := Lib.hid (mhs_wf HW0.out HMH.out)
          have q1 : (0 : Int) ≤ (k : Int) := by omega
          have q2 : (k : Int) < (N.length : Int) := by omega
          clear hcell hu d0 hx hxN
          go_wp2_with fail
          refine (Hits_eq _ _ L x _ (H0.out.up (bAfter HBb.out hB)) HU.out HW0.out HWX.out (by omega) (bOf_true (mhs_hits HMH.out))).mono ?_
          rintro e w5 ⟨rfl, hB5⟩
          have HBx := Lib.hid (bAfter HB.out hB5)
          have HU5 := Lib.hid (S1.up HU.out hB5)
          clear d1 hB hB5 HU HB
          go_wp2_with fail
          go_loopw [48] (fun i wr => ∃ j : Nat, j ≤ x.length ∧ i = .int .i64 j ∧ Below w5.heap.size w5 wr) (fun i _ => x.length - (intOf i).toNat)
          case atStart => exact ⟨0, Nat.zero_le _, rfl, Below.refl _ _⟩
          case round =>
            obtain ⟨j, hj, rfl, hBj⟩ := hrel
            by_cases hjl : j < x.length
            · have HUj := Lib.hid (S1.up HU5.out hBj)
              have HSj := Lib.hid (H0.out.up (bAfter HBb.out (bAfter HBx.out hBj)))
              obtain ⟨y, hy⟩ := get_some hjl
              have HNEED := Lib.hid (bOf_false (mhs_needs HMH.out hy))
              obtain ⟨hrun2, hS2⟩ := cut_pre uI zI HUj.out (n := j) hj
              obtain ⟨Ad, hrun1', hS1⟩ := cut_from uI zI HUj.out (n := j + 1) (by omega)
              have hrun1 : ∀ (W : World), (Instr.slice 23 (.slice Au x.length cu) (some (.int .i64 ((j : Int) + 1))) none none).run Tryz.prog W = .ok (.slice Ad (x.length - (j + 1)) (cu - (j + 1))) W := fun W => by have := hrun1' W; rwa [Int.natCast_succ] at this
              have HS1 := Lib.hid hS1
              have HS2' := Lib.hid hS2
              have hl1 : (x.drop (j + 1)).length ≤ 12 := by rw [List.length_drop]; omega
              have hl2 : (x.take j).length ≤ 12 := by rw [List.length_take]; omega
              have HWL := Lib.hid (wf_less HWX.out j)
              have r1 : (0 : Int) ≤ (j : Int) := by omega
              have r2 : (j : Int) ≤ (x.length : Int) := by omega
              have r3 : (0 : Int) ≤ (j : Int) + 1 := by omega
              have r4 : (j : Int) + 1 ≤ (x.length : Int) := by omega
              have hsum : IntKind.i64.wrap ((j : Int) + 1) = (j : Int) + 1 := IntWalk.i64_in _ (by omega)
              clear hS1 hS2 hy hrun1'
              obtain ⟨i0, hi, hz0, hz1, hz2⟩ := info_parts info3
              go_wp2_with fail
              generalize x.take j = ta at *
              generalize x.drop (j + 1) = dr at *
              go_region_held3 (fun _ => True) (trivial)
                (first
                  | (go_at_call 14; with_reducible refine (Hits_eq _ _ L (ta ++ dr) _ (HSj.out.up hB7) (own_S1 HO7.out) HW0.out HWL.out (by (rw [List.length_append]; omega)) HNEED.out).mono ?_;
                     rintro e w8 ⟨rfl, hB8'⟩;
                     have hB8 : Below wr.heap.size wr w8 := bAfter hB7 hB8';
                     clear hB8')
                  | (refine step_append_sl _ (enc1 iV) rfl (.tmp 52) (.tmp 55) 23 rfl wr.heap.size 3 i0 (.int .i64 0) 1 8 Tryz.underlying23 hi hz0 hz1 hz2 rfl (by decide) _ 0 [] rfl (World.ownsRow_made wr #[] 0 (Nat.le_refl _) (by simp [maxLen]) rfl).drew _ _ ta (fun _ => rfl) rfl (S1.drew (S1.al HS2'.out _)) (fun x _ u hu => by (rw [List.mem_singleton.1 hu]; rfl)) ?c1 ?c2 ?c3 ?_; (case c1 => (simp only [maxLen]; omega)); (case c2 => omega); (case c3 => simp);
                     intro v6 w6 hown6 hgrow6 _;
                     have hB6 : Below wr.heap.size wr w6 := (bAl (Below.refl _ wr) _).drew.grown hgrow6 (by simp) (fun k e => Nat.le_of_eq (Option.some.inj e));
                     simp only [Nat.zero_add, List.nil_append, flat1] at hown6;
                     have HO6 := Lib.hid hown6;
                     clear hgrow6 hown6)
                  | (refine step_append_sl _ (enc1 iV) rfl (.tmp 56) (.tmp 60) 23 rfl wr.heap.size 3 i0 (.int .i64 0) 1 8 Tryz.underlying23 hi hz0 hz1 hz2 rfl (by decide) _ _ _ rfl HO6.out _ _ dr (fun _ => rfl) rfl (S1.up HS1.out hB6) (fun x _ u hu => by (rw [List.mem_singleton.1 hu]; rfl)) ?c4 ?c5 ?c6 ?_; (case c4 => (simp only [maxLen]; omega)); (case c5 => omega); (case c6 => exact hB6.size);
                     intro v7 w7 hown7 hgrow7 _;
                     have hB7 : Below wr.heap.size wr w7 := hB6.grown hgrow7 hB6.size (fun k e => (HO6.out.lt k e).1);
                     have hown7' : w7.ownsRow wr.heap.size 3 1 v7 (ta ++ dr).length ((ta ++ dr).map iV) := by (rw [List.map_append, List.length_append]; simpa only [flat1] using hown7);
                     have HO7 := Lib.hid hown7';
                     clear hgrow7 hown7 hown7'))
              go_wp2_with fail
              go_roundw
              case rel => exact ⟨j + 1, by omega, by go_num, bAfter hBj hB8⟩
              case measure => simp [intOf]; omega
            · obtain rfl : j = x.length := by omega
              go_wp2_with fail
              go_roundw
              case rel => exact ⟨k + 1, by omega, by go_num, bAfter HBx.out hBj⟩
              case measure => simp [intOf]; omega
        · obtain rfl : k = N.length := by omega
          clear hlt
          have HBc := Lib.hid (bAfter HBb.out hB)
          have HSNr := Lib.hid (HSN.out.up hB)
          have HS3r := Lib.hid (HS3.out.up hB)
          clear HB hB HAN HSN HS3
          go_wp2_with fail
          cases hf2 : bOf (Tame N) with
          | false =>
            refine (tame_eq _ N _ HSNr.out hf2).mono ?_
            rintro e w6 ⟨rfl, rfl⟩
            clear hf2
            go_wp2_with fail
            go_ret
            exact ⟨rfl, HBc.out⟩
          | true =>
            have HF2 := Lib.hid (bOf_iff.1 hf2)
            refine (tame_eq _ N _ HSNr.out hf2).mono ?_
            rintro e w6 ⟨rfl, rfl⟩
            clear hf2
            have hn12 : N.length ≤ 12 := HF2.out.1.1
            go_wp2_with fail
            refine (All_any _ N 256 _ HSNr.out (by omega) (HT.out.up HBc.out)).mono ?_
            rintro e w7 ⟨v7, D, c7, rfl, hs7, hB7, hm7⟩
            obtain ⟨rfl, rfl⟩ := all_of (okMost_256.2 fun T hT => mhs_valid HOK.out ((HALL.out.2 T).1 hT)) (dual_all HOK.out HALL.out.2 HMIN.out) (by omega) hm7
            have HBd := Lib.hid (bAfter HBc.out hB7)
            have HS7 := Lib.hid hs7
            have HS3d := Lib.hid (HS3r.out.up hB7)
            clear hs7 hB7 hm7
            go_wp2_with fail
            refine (rSameAll_eq _ _ _ _ _ HS7.out HS3d.out (bOf_true rfl)).mono ?_
            rintro e w8 ⟨rfl, hB8⟩
            have HBe := Lib.hid (bAfter HBd.out hB8)
            clear hB8
            go_wp2_with fail
            go_ret
            exact ⟨rfl, HBe.out⟩
    · go_wp2_with fail
      refine (Minimal_c _ L _ (H0.out.up HBa.out) (by omega) HLL.out (HT.out.up HBa.out)).mono ?_
      rintro e w3 ⟨v3, M, c, rfl, hs3, hm3, _, hB3⟩
      obtain rfl : c = 0 := by
        rcases hm3 with ⟨_, _, h⟩ | ⟨h, _⟩
        · exact h
        · exact absurd hok.1 h
      have HBb := Lib.hid (bAfter HBa.out hB3)
      clear hs3 hm3 hB3
      go_wp2_with fail
      go_ret
      exact ⟨by simp, HBb.out⟩
end Go.Proofs.YtbmdfnifbimfmaaGreatDoor
