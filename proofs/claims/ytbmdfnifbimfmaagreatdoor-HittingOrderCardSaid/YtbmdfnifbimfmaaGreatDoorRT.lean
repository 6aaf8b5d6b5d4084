/- tame. -/
import Derived.Test.YtbmdfnifbimfmaaGreatDoorR6
namespace Go.Proofs.YtbmdfnifbimfmaaGreatDoor
open Go.RowKit Go.Shelf

theorem ways_none (L : List (List Int)) : ∀ j ≤ 0, ways (L.take j) ≤ 2000 := fun j hj => by
  obtain rfl : j = 0 := by omega
  simp [ways]
set_option maxHeartbeats 4000000 in
theorem tame_any (v : Value) (L : List (List Int)) (w : World) (h : SS w v L) : Calls Tryz.prog 16 #[v] w fun e w' => e = .returned (.bool (bOf (Tame L))) ∧ w = w' := by
  obtain ⟨A1, c1, rfl, hc1, hm1, hA1⟩ := h.form
  have HA := Lib.hid hA1
  have H := Lib.hid h
  unfold maxLen at hm1
  clear h hA1
  cases hf : bOf (Few L 12) with
  | false =>
    have HF := Lib.hid hf
    clear hf
    go_enter Tryz.func16, Tryz.ntmps16
    go_wp2_with fail
    refine (rFew_eq _ L 12 _ H.out (by decide) HF.out).mono ?_
    rintro e w1 ⟨rfl, rfl⟩
    go_wp2_with fail
    go_ret
    exact ⟨ret_bool (bOf_false fun h => bOf_false_iff.1 HF.out h.1).symm, rfl⟩
  | true =>
    have HF := Lib.hid hf
    have HFW := Lib.hid (bOf_iff.1 hf)
    have hl12 : L.length ≤ 12 := HFW.out.1
    clear hf
    go_enter Tryz.func16, Tryz.ntmps16
    go_wp2_with fail
    refine (rFew_eq _ L 12 _ H.out (by decide) HF.out).mono ?_
    rintro e w1 ⟨rfl, rfl⟩
    go_wp2_with fail
    go_loop [3, 11] (fun n i => ∃ (k W : Nat), k ≤ L.length ∧ W ≤ 2000 ∧ i = .int .i64 k ∧ n = .int .i64 (W : Int) ∧ Hid (ways (L.take k) = W ∧ ∀ j ≤ k, ways (L.take j) ≤ 2000)) (fun _ i => L.length - (intOf i).toNat)
    case atStart => exact ⟨0, 1, Nat.zero_le _, by decide, rfl, rfl, Lib.hid ⟨rfl, ways_none L⟩⟩
    case round =>
      obtain ⟨k, W, hk, hW, rfl, rfl, HR⟩ := hrel
      by_cases hlt : k < L.length
      · obtain ⟨b1, o1, rfl, hb1, hcell⟩ := HA.out (by omega)
        obtain ⟨s, hs⟩ := get_some hlt
        obtain ⟨u, d0, hu⟩ := hcell k s hs
        obtain ⟨Au, cu, rfl⟩ := SI.slice_form hu
        have hsl : s.length ≤ 6 := HFW.out.2 s (List.mem_of_getElem? hs)
        have HWS := Lib.hid (ways_succ hs)
        have HHS := Lib.hid hs
        clear hs hu hcell
        generalize s.length = m at *
        obtain ⟨p, hp, hpm⟩ : ∃ p : Nat, p = W * max 1 m ∧ p ≤ 12000 := ⟨_, rfl, Nat.le_trans (Nat.mul_le_mul hW (show max 1 m ≤ 6 by omega)) (by decide)⟩
        have hwr : (W : Int) * max 1 (m : Int) = (p : Int) := by
          rw [hp, Int.natCast_mul]; congr 1; omega
        have hwr2 : IntKind.i64.wrap ((W : Int) * max 1 (m : Int)) = (p : Int) := by rw [hwr]; exact IntWalk.i64_in _ (by omega)
        have HP := Lib.hid hp
        clear hp
        by_cases hgo : 2000 < p
        · have HN : Hid (¬ Tame L) := Lib.hid fun h => by
            have h1 := h.2 (k + 1) (by omega)
            rw [HWS.out, HR.out.1, ← HP.out] at h1
            omega
          go_wp2_with fail
          go_ret
          exact ⟨ret_bool (bOf_false HN.out).symm, rfl⟩
        · have HR2 : Hid (ways (L.take (k + 1)) = p ∧ ∀ j ≤ k + 1, ways (L.take j) ≤ 2000) := Lib.hid (by
            have h1 : ways (L.take (k + 1)) = p := by rw [HWS.out, HR.out.1, HP.out]
            refine ⟨h1, fun j hj => ?_⟩
            rcases Nat.lt_or_ge j (k + 1) with h | h
            · exact HR.out.2 j (by omega)
            · obtain rfl : j = k + 1 := by omega
              rw [h1]; omega)
          go_wp2_with fail
          go_round
          case rel => exact ⟨k + 1, p, by omega, by omega, by go_num, rfl, HR2⟩
          case measure => simp [intOf]; omega
      · obtain rfl : k = L.length := by omega
        go_wp2_with fail
        go_ret
        exact ⟨ret_bool (bOf_true ⟨HFW.out, HR.out.2⟩).symm, rfl⟩
theorem tame_eq (v : Value) (L : List (List Int)) (w : World) (h : SS w v L) {c : Bool} (hc : bOf (Tame L) = c) : Calls Tryz.prog 16 #[v] w fun e w' => e = .returned (.bool c) ∧ w = w' := by
  subst hc; exact tame_any v L w h
end Go.Proofs.YtbmdfnifbimfmaaGreatDoor
