/- The reference's Transversals: the walk. -/
import Derived.Test.YtbmdfnifbimfmaaGreatDoorR6
import Derived.Deep.RegionHeld3
namespace Go.Proofs.YtbmdfnifbimfmaaGreatDoor
open Go.RowKit Go.Shelf

theorem later_hit {w : World} {s : Later w} {v1 v2 : Value} {a b : List Int} (h1 : SI w v1 a) (h2 : SI w v2 b) {c : Bool} (hc : bOf (Meet a b) = c) :
    Calls Tryz.prog 24 #[v1, v2] s.at fun e w'' => e = .returned (.bool c) ∧ ∃ s' : Later w, w'' = s'.at :=
  (rHit_eq v1 v2 a b s.at (S1.up h1 s.below) (S1.up h2 s.below) hc).mono fun _ _ ⟨he, hw⟩ => ⟨he, s, hw.symm⟩

theorem ss_empty (w : World) : SS (w.alloc (.cells #[] 23)) (.slice (some ⟨w.heap.size, 0, none⟩) 0 0) [] := ⟨[], rfl, S1.lit w _ rfl _ _ _ [] 0 rfl rfl (by simp [maxLen]), fun _ h => by cases h⟩
theorem ss_one_nil (w : World) : SS ((w.alloc (.cells #[] 3)).alloc (.cells #[.slice (some ⟨w.heap.size, 0, none⟩) 0 0] 23)) (.slice (some ⟨w.heap.size + 1, 0, none⟩) 1 1) [[]] :=
  ⟨[(.slice (some ⟨w.heap.size, 0, none⟩) 0 0, [])], rfl, S1.lit _ _ (by simp) _ _ _ _ _ rfl rfl (by simp [maxLen]), fun p hp => by
    rw [List.mem_singleton.1 hp]
    exact S1.mk (l := ([] : List Int)) (Nat.le_refl _) (by simp [maxLen]) (fun h => by simp at h)⟩

set_option maxRecDepth 100000 in
set_option maxHeartbeats 8000000 in
theorem rTransversals_any (v : Value) (L : List (List Int)) (w : World) (h : SS w v L) (ht : Tame L) : Calls Tryz.prog 37 #[v] w (RetSS w (trL L)) := by
  obtain ⟨A1, c1, rfl, hc1, hm1, hA1⟩ := h.form
  have H1 := Lib.hid hA1
  have HTM := Lib.hid ht
  have hl12 : L.length ≤ 12 := ht.1.1
  have HS0 := Lib.hid (ss_one_nil w)
  have hB0 : Below w.heap.size w ((w.alloc (.cells #[] 3)).alloc (.cells #[.slice (some ⟨w.heap.size, 0, none⟩) 0 0] 23)) := ((Below.refl _ _).alloc (Nat.le_refl _) _).alloc (by simp) _
  clear hA1 h hm1 hc1 ht
  go_enter Tryz.func37, Tryz.ntmps37
  go_wp2_with fail
  go_loopw [3, 4] (fun vo i wr => ∃ k : Nat, k ≤ L.length ∧ i = .int .i64 k ∧ Hid (SS wr vo (trL (L.take k))) ∧ Below w.heap.size w wr) (fun _ i _ => L.length - (intOf i).toNat)
  case atStart => exact ⟨0, Nat.zero_le _, rfl, Lib.hid (by simpa [trL] using HS0.out), hB0⟩
  case round =>
    clear HS0 hB0
    obtain ⟨k, hk, rfl, HO, hB⟩ := hrel
    by_cases hlt : k < L.length
    · obtain ⟨b1, o1, rfl, hb1, hcell⟩ := H1.out (by omega)
      obtain ⟨s, hs⟩ := get_some hlt
      obtain ⟨u, d0, hu⟩ := hcell k s hs
      obtain ⟨Au, cu, rfl⟩ := SI.slice_form hu
      have HU := Lib.hid hu
      have HD0 := Lib.hid d0
      have HSU : Hid (trL (L.take (k + 1)) = trStep (trL (L.take k)) s) := Lib.hid (trL_succ hs)
      have hsl : s.length ≤ 6 := HTM.out.1.2 s (List.mem_of_getElem? hs)
      have hol : (trL (L.take k)).length ≤ 2000 := Nat.le_trans (trL_len L k hk) (HTM.out.2 k hk)
      have HOE : Hid (∀ x ∈ trL (L.take k), x.length ≤ 12) := Lib.hid fun x hx => Nat.le_trans (trL_elen L k hk x hx) (by omega)
      have q1 : (0 : Int) ≤ (k : Int) := by omega
      have q2 : (k : Int) < (L.length : Int) := by omega
      clear hs hu hcell d0
      generalize trL (L.take k) = out at *
      obtain ⟨A2, c2, hfv, hc2, hm2, hA2⟩ := HO.out.form
      subst hfv
      have HA2 := Lib.hid hA2
      clear hA2 hm2 hc2
      obtain ⟨wo, rfl⟩ : ∃ wo : World, wo = wr := ⟨_, rfl⟩
      have hS1 := Lib.hid (ss_empty wo)
      have hB1 : Below wo.heap.size wo (wo.alloc (.cells #[] 23)) := (Below.refl _ _).alloc (Nat.le_refl _) _
      go_wp2_with fail
      go_loopw [5, 6] (fun vn i wr => ∃ j : Nat, j ≤ out.length ∧ i = .int .i64 j ∧ Hid (SS wr vn (trNx (out.take j) s)) ∧ Below wo.heap.size wo wr) (fun _ i _ => out.length - (intOf i).toNat)
      case atStart => exact ⟨0, Nat.zero_le _, rfl, Lib.hid (by simpa [trNx] using hS1.out), hB1⟩
      case round =>
        clear hS1 hB1
        obtain ⟨j, hj, rfl, HN, hBi⟩ := hrel
        have hBa := bAfter hB hBi
        have HUw := Lib.hid (S1.up HU.out hBa)
        have hnl : (trNx (out.take j) s).length ≤ 12000 := by
          have h1 := (trNx_spec (out.take j) s).2.2
          have h2 : (out.take j).length ≤ 2000 := by rw [List.length_take]; omega
          have h3 : max 1 s.length ≤ 6 := by omega
          exact Nat.le_trans h1 (Nat.le_trans (Nat.mul_le_mul h2 h3) (by decide))
        by_cases hjl : j < out.length
        · obtain ⟨o, ho⟩ := get_some hjl
          obtain ⟨b2, o2, hAe, hb2, hcell2⟩ := HA2.out (by omega)
          subst hAe
          obtain ⟨uo, e0, huo⟩ := hcell2 j o ho
          obtain ⟨Ao, co, rfl⟩ := SI.slice_form huo
          have HOJ := Lib.hid (S1.up huo hBi)
          have HE0 := Lib.hid e0
          have hoe := HOE.out o (List.mem_of_getElem? ho)
          have HNS : Hid (trNx (out.take (j + 1)) s = trIn s (trNx (out.take j) s) o) := Lib.hid (trNx_succ ho)
          have p1 : (0 : Int) ≤ (j : Int) := by omega
          have p2 : (j : Int) < (out.length : Int) := by omega
          clear ho hcell2 huo e0
          generalize trNx (out.take j) s = acc at *
          have e1 := later_old ((hBa.cell (p := ⟨b1, o1 + k, none⟩) hb1).trans HD0.out)
          have e2 := later_old ((hBi.cell (p := ⟨b2, o2 + j, none⟩) hb2).trans HE0.out)
          cases hm : bOf (Meet o s) with
          | true =>
            have HM := Lib.hid hm
            clear hm
            go_wp2_with fail
            refine wp_region_later (by kernel_rfl) (by kernel_rfl) ?_
            repeat (first | go_big_quiet_step (with_reducible exact later_hit HOJ.out HUw.out HM.out) | quiet_step (with_reducible exact later_hit HOJ.out HUw.out HM.out))
            refine wpQuiet_nil ?_
            rintro _ ⟨z, rfl⟩
            have hB7 := z.below
            have f2 : z.at.cell? ⟨b2, o2 + j, none⟩ = some (.slice Ao o.length co) := e2 z
            generalize z.at = w7 at *
            clear e1 e2
            go_wp2_with fail
            refine (rWith_any _ _ acc o _ (SS.up HN.out hB7) (S1.up HOJ.out hB7) (by omega) (by omega)).mono ?_
            rintro e w8 ⟨v8, rfl, hs8, hB8⟩
            have HS8 := Lib.hid hs8
            clear hs8
            go_wp2_with fail
            go_roundw
            case rel => exact ⟨j + 1, by omega, by go_num, Lib.hid (by rw [HNS.out]; unfold trIn; rw [HM.out]; exact HS8.out), bAfter hBi (bAfter hB7 hB8)⟩
            case measure => simp [intOf]; omega
          | false =>
            have HM := Lib.hid hm
            clear hm
            go_wp2_with fail
            refine wp_region_later (by kernel_rfl) (by kernel_rfl) ?_
            repeat (first | go_big_quiet_step (with_reducible exact later_hit HOJ.out HUw.out HM.out) | quiet_step (with_reducible exact later_hit HOJ.out HUw.out HM.out))
            refine wpQuiet_nil ?_
            rintro _ ⟨z, rfl⟩
            have hB7 := z.below
            have f1 : z.at.cell? ⟨b1, o1 + k, none⟩ = some (.slice Au s.length cu) := e1 z
            have f2 : z.at.cell? ⟨b2, o2 + j, none⟩ = some (.slice Ao o.length co) := e2 z
            generalize z.at = w7 at *
            clear e1 e2
            have HN7 := Lib.hid (SS.up HN.out hB7)
            have HO7 := Lib.hid (S1.up HOJ.out hB7)
            have HU7 := Lib.hid (S1.up HUw.out hB7)
            have HF1 := Lib.hid f1
            have HF2 := Lib.hid f2
            have l1 := World.block_lt_of_cell? w7 _ f1
            have l2 := World.block_lt_of_cell? w7 _ f2
            have HBX := Lib.hid (bAfter hBi hB7)
            clear f1 f2 hB7 HN HOJ HUw
            go_wp2_with fail
            go_loopw [5, 7] (fun vn i wr => ∃ m : Nat, m ≤ s.length ∧ i = .int .i64 m ∧ Hid (SS wr vn (trAdd o (s.take m) acc)) ∧ Below w7.heap.size w7 wr) (fun _ i _ => s.length - (intOf i).toNat)
            case atStart => exact ⟨0, Nat.zero_le _, rfl, Lib.hid (by simpa [trAdd] using HN7.out), Below.refl _ _⟩
            case round =>
              obtain ⟨m, hm, rfl, HT, hBm⟩ := hrel
              have g1 : wr.cell? ⟨b1, o1 + k, none⟩ = some (.slice Au s.length cu) := (hBm.cell (p := ⟨b1, o1 + k, none⟩) l1).trans HF1.out
              by_cases hml : m < s.length
              · obtain ⟨A3, c3, hf3, _, _, hA3⟩ := HU7.out.form
                obtain ⟨hAA, hcc⟩ : A3 = Au ∧ c3 = cu := by injection hf3 with h1 h2 h3; exact ⟨h1.symm, h3.symm⟩
                subst hAA hcc
                obtain ⟨b3, o3, hAe3, hb3, hcell3⟩ := hA3 (by omega)
                subst hAe3
                obtain ⟨x, hx⟩ := get_some hml
                have g2 : wr.cell? ⟨b2, o2 + j, none⟩ = some (.slice Ao o.length co) := (hBm.cell (p := ⟨b2, o2 + j, none⟩) l2).trans HF2.out
                have g3 : wr.cell? ⟨b3, o3 + m, none⟩ = some (.int .i64 x) := (hBm.cell (p := ⟨b3, o3 + m, none⟩) hb3).trans (hcell3 m x hx)
                have HTS : Hid (trAdd o (s.take (m + 1)) acc = withL (trAdd o (s.take m) acc) (addL o x)) := Lib.hid (trAdd_succ hx)
                have hal : acc.length ≤ 12000 := hnl
                have htl : (trAdd o (s.take m) acc).length ≤ 100000 := by
                  have : ∀ (t : List Int) (a : List (List Int)), (trAdd o t a).length ≤ a.length + t.length := fun t => by
                    induction t with
                    | nil => intro a; simp [trAdd]
                    | cons y t ih => intro a; have h1 := ih (withL a (addL o y)); have h2 := withL_len a (addL o y); simp only [List.length_cons]; exact Nat.le_trans h1 (by omega)
                  have h1 := this (s.take m) acc
                  rw [List.length_take] at h1
                  omega
                have hadl := len_addL o x
                have r1 : (0 : Int) ≤ (m : Int) := by omega
                have r2 : (m : Int) < (s.length : Int) := by omega
                have HK : Hid (∀ W, Below wr.heap.size wr W → W.cell? ⟨b2, o2 + j, none⟩ = some (.slice Ao o.length co) ∧ W.cell? ⟨b1, o1 + k, none⟩ = some (.slice (some ⟨b3, o3, none⟩) s.length c3) ∧ W.cell? ⟨b3, o3 + m, none⟩ = some (.int .i64 x)) := Lib.hid fun W hW =>
                  ⟨(hW.cell (World.block_lt_of_cell? wr _ g2)).trans g2, (hW.cell (World.block_lt_of_cell? wr _ g1)).trans g1, (hW.cell (World.block_lt_of_cell? wr _ g3)).trans g3⟩
                have hD0 : wr.drew.cell? ⟨b2, o2 + j, none⟩ = some (.slice Ao o.length co) ∧ wr.drew.cell? ⟨b1, o1 + k, none⟩ = some (.slice (some ⟨b3, o3, none⟩) s.length c3) ∧ wr.drew.cell? ⟨b3, o3 + m, none⟩ = some (.int .i64 x) := ⟨g2, g1, g3⟩
                have hW0 : Below wr.heap.size wr wr.drew := (Below.refl _ _).drew
                have HOW : Hid (SI wr (.slice Ao o.length co) o) := Lib.hid (S1.up HO7.out hBm)
                clear hx hcell3 hA3 hf3
                generalize trAdd o (s.take m) acc = ac2 at *
                go_wp2_with fail
                go_region_held3 (fun W => W.cell? ⟨b2, o2 + j, none⟩ = some (.slice Ao o.length co) ∧ W.cell? ⟨b1, o1 + k, none⟩ = some (.slice (some ⟨b3, o3, none⟩) s.length c3) ∧ W.cell? ⟨b3, o3 + m, none⟩ = some (.int .i64 x)) (first | with_reducible exact hD0 | with_reducible exact HK.out _ hBA | with_reducible exact HK.out _ hBB)
                  (first
                    | (go_at_call 57; with_reducible refine (rAdd_any (.slice Ao o.length co) o x _ (S1.up HOW.out hW0) (by omega)).mono ?_;
                       rintro e wA ⟨vA, rfl, hoA, hBA1⟩;
                       have hBA : Below wr.heap.size wr wA := bAfter hW0 hBA1;
                       have HOA := Lib.hid (own_S1 (f := iV) hoA);
                       clear hoA)
                    | (go_at_call 50; with_reducible refine (rWith_any _ _ ac2 (addL o x) _ (SS.up HT.out hBA) HOA.out (by omega) (by omega)).mono ?_;
                       rintro e wB ⟨vB, rfl, hsB, hBB1⟩;
                       have hBB : Below wr.heap.size wr wB := bAfter hBA hBB1;
                       have HSB := Lib.hid hsB;
                       clear hsB))
                go_wp2_with fail
                go_roundw
                case rel => exact ⟨m + 1, by omega, by go_num, Lib.hid (by rw [HTS.out]; exact HSB.out), bAfter hBm hBB⟩
                case measure => simp [intOf]; omega
              · obtain rfl : m = s.length := by omega
                have hTF := HT.out
                rw [List.take_length] at hTF
                have HTF := Lib.hid hTF
                clear HT hTF
                go_wp2_with fail
                go_roundw
                case rel => exact ⟨j + 1, by omega, by go_num, Lib.hid (by rw [HNS.out]; unfold trIn; rw [HM.out]; exact HTF.out), bAfter HBX.out hBm⟩
                case measure => simp [intOf]; omega
        · obtain rfl : j = out.length := by omega
          have hNF := HN.out
          rw [List.take_length] at hNF
          have HNF := Lib.hid hNF
          clear hNF
          have hnf : (trNx out s).length ≤ 100000 := by rw [List.take_length] at hnl; omega
          have HNE : Hid (∀ x ∈ trNx out s, x.length ≤ 1000000) := Lib.hid fun x hx => by
            obtain ⟨o, ho, he⟩ := ((trNx_spec out s).2.1 x).1 hx
            have := trEl_len he
            have := HOE.out o ho
            omega
          clear HN hnl
          go_wp2_with fail
          refine (rLeast_any _ (trNx out s) _ HNF.out hnf HNE.out).mono ?_
          rintro e w7 ⟨v7, rfl, hs7, hB7⟩
          have HS7 := Lib.hid hs7
          clear hs7
          go_wp2_with fail
          go_roundw
          case rel => exact ⟨k + 1, by omega, by go_num, Lib.hid (by rw [HSU.out]; exact HS7.out), bAfter hBa hB7⟩
          case measure => simp [intOf]; omega
    · obtain rfl : k = L.length := by omega
      go_wp2_with fail
      go_ret
      exact ⟨_, rfl, by have := HO.out; rwa [List.take_length] at this, hB⟩
end Go.Proofs.YtbmdfnifbimfmaaGreatDoor
