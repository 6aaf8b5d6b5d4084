/- Walks: comparison, validity, subsets. -/
import Derived.Test.YtbmdfnifbimfmaaGreatDoorShelf
import Derived.Test.YtbmdfnifbimfmaaGreatDoorHMap
import Derived.Test.YtbmdfnifbimfmaaGreatDoorHP0
import Derived.IntWalk
namespace Go.Proofs.YtbmdfnifbimfmaaGreatDoor
open Go.RowKit

theorem cmp_eq (x y : Int) (w : World) {c : Int} (h : Lib.compareInt x y = c) : Calls Tryz.prog 55 #[.int .i64 x, .int .i64 y] w fun e w' => e = .returned (.int .i64 c) ∧ w = w' :=
  (Tryz.cmp_Compare_int x y w).mono fun _ _ ⟨he, hw⟩ => ⟨by rw [he, h], hw.symm⟩
theorem cmpI_lt {x y : Int} (h : x < y) : Lib.compareInt x y = -1 := if_pos h
theorem cmpI_gt {x y : Int} (h : y < x) : Lib.compareInt x y = 1 := by unfold Lib.compareInt; rw [if_neg (by omega), if_pos h]
theorem cmpI_eq (x : Int) : Lib.compareInt x x = 0 := by unfold Lib.compareInt; rw [if_neg (Int.lt_irrefl _), if_neg (Int.lt_irrefl _)]

set_option maxHeartbeats 1000000 in
theorem slCompare_any (v1 v2 : Value) (a b : List Int) (w : World) (h1 : SI w v1 a) (h2 : SI w v2 b) :
    Calls Tryz.prog 56 #[v1, v2] w fun e w' => e = .returned (.int .i64 (cmpL a b)) ∧ w = w' := by
  obtain ⟨A1, c1, rfl, _, hm1, hA1⟩ := h1.form
  obtain ⟨A2, c2, rfl, _, hm2, hA2⟩ := h2.form
  have g1 := h1.len_le
  have g2 := h2.len_le
  unfold maxLen at hm1 hm2 g1 g2
  have H1 := Lib.hid hA1
  have H2 := Lib.hid hA2
  clear hA1 hA2 h1 h2 hm1 hm2
  go_enter Tryz.func56, Tryz.ntmps56
  go_wp2
  go_loop [11] (fun i => ∃ k : Nat, k ≤ a.length ∧ k ≤ b.length ∧ i = .int .i64 k ∧ Hid (cmpL a b = cmpL (a.drop k) (b.drop k))) (fun i => a.length - (intOf i).toNat)
  case atStart => exact ⟨0, Nat.zero_le _, Nat.zero_le _, rfl, Lib.hid rfl⟩
  case round =>
    obtain ⟨k, hk, hkb, rfl, HR⟩ := hrel
    by_cases hlt : k < a.length
    · obtain ⟨b1, o1, rfl, hb1, hc1⟩ := H1.out (by omega)
      obtain ⟨x, hx⟩ := get_some hlt
      have d1 := hc1 k x hx
      have HX := Lib.hid hx
      clear hc1 hx
      by_cases hlb : k < b.length
      · obtain ⟨b2, o2, rfl, hb2, hc2⟩ := H2.out (by omega)
        obtain ⟨y, hy⟩ := get_some hlb
        have d2 := hc2 k y hy
        have HY := Lib.hid hy
        clear hc2 hy
        rcases Int.lt_trichotomy x y with h | h | h
        · have HC := Lib.hid (cmpI_lt h)
          go_wp2_with fail
          refine (cmp_eq x y _ HC.out).mono ?_
          rintro e w1 ⟨rfl, rfl⟩
          go_wp2_with fail
          go_ret
          exact ⟨ret_int (by rw [HR.out, cmpL_lt HX.out HY.out h]), rfl⟩
        · subst h
          have HC := Lib.hid (cmpI_eq x)
          go_wp2_with fail
          refine (cmp_eq x x _ HC.out).mono ?_
          rintro e w1 ⟨rfl, rfl⟩
          go_wp2_with fail
          go_round
          case rel => exact ⟨k + 1, by omega, by omega, by go_num, Lib.hid (by rw [HR.out, cmpL_eq HX.out HY.out])⟩
          case measure => simp [intOf]; omega
        · have HC := Lib.hid (cmpI_gt h)
          go_wp2_with fail
          refine (cmp_eq x y _ HC.out).mono ?_
          rintro e w1 ⟨rfl, rfl⟩
          go_wp2_with fail
          go_ret
          exact ⟨ret_int (by rw [HR.out, cmpL_gt HX.out HY.out h]), rfl⟩
      · go_wp2_with fail
        go_ret
        exact ⟨ret_int (by rw [HR.out, cmpL_short hlt (by omega)]), rfl⟩
    · obtain rfl : k = a.length := by omega
      by_cases hl : a.length < b.length
      · go_wp2_with fail
        go_ret
        exact ⟨ret_int (by rw [HR.out, cmpL_end hl]), rfl⟩
      · go_wp2_with fail
        go_ret
        exact ⟨ret_int (by rw [HR.out, cmpL_same (by omega)]), rfl⟩

set_option maxHeartbeats 400000 in
theorem compare_any (v1 v2 : Value) (a b : List Int) (w : World) (h1 : SI w v1 a) (h2 : SI w v2 b) :
    Calls Tryz.prog 36 #[v1, v2] w fun e w' => e = .returned (.int .i64 (cmpS a b)) ∧ w = w' := by
  obtain ⟨A1, c1, rfl⟩ := SI.slice_form h1
  obtain ⟨A2, c2, rfl⟩ := SI.slice_form h2
  have g1 := h1.len_le
  have g2 := h2.len_le
  unfold maxLen at g1 g2
  have H1 := Lib.hid h1
  have H2 := Lib.hid h2
  clear h1 h2
  by_cases hl : a.length = b.length
  · have hb : ((a.length : Int) != (b.length : Int)) = false := by simp [hl]
    have HS : Hid (cmpS a b = cmpL a b) := Lib.hid (by unfold cmpS; rw [if_neg (by omega), if_neg (by omega)])
    have hb' : (a.length != b.length) = false := by simp [hl]
    clear hl
    go_enter Tryz.func36, Tryz.ntmps36
    go_wp2_with fail
    refine (slCompare_any _ _ a b _ H1.out H2.out).mono ?_
    rintro e w1 ⟨rfl, rfl⟩
    go_wp2_with fail
    go_ret
    exact ⟨ret_int HS.out.symm, rfl⟩
  · have hb : ((a.length : Int) != (b.length : Int)) = true := by simp; omega
    rcases Nat.lt_or_gt_of_ne hl with h | h
    · have HC : Hid (Lib.compareInt (a.length : Int) (b.length : Int) = -1) := Lib.hid (cmpI_lt (by omega))
      have HS : Hid (cmpS a b = -1) := Lib.hid (by unfold cmpS; rw [if_pos h])
      go_enter Tryz.func36, Tryz.ntmps36
      go_wp2_with fail
      refine (cmp_eq _ _ _ HC.out).mono ?_
      rintro e w1 ⟨rfl, rfl⟩
      go_wp2_with fail
      go_ret
      exact ⟨ret_int HS.out.symm, rfl⟩
    · have HC : Hid (Lib.compareInt (a.length : Int) (b.length : Int) = 1) := Lib.hid (cmpI_gt (by omega))
      have HS : Hid (cmpS a b = 1) := Lib.hid (by unfold cmpS; rw [if_neg (by omega), if_pos h])
      go_enter Tryz.func36, Tryz.ntmps36
      go_wp2_with fail
      refine (cmp_eq _ _ _ HC.out).mono ?_
      rintro e w1 ⟨rfl, rfl⟩
      go_wp2_with fail
      go_ret
      exact ⟨ret_int HS.out.symm, rfl⟩

set_option maxHeartbeats 1000000 in
theorem validSet_any (v : Value) (l : List Int) (w : World) (h : SI w v l) :
    Calls Tryz.prog 47 #[v] w fun e w' => e = .returned (.bool (bOf (Valid l))) ∧ w = w' := by
  obtain ⟨A1, c1, rfl, _, hm1, hA1⟩ := h.form
  have g1 := h.len_le
  unfold maxLen at hm1 g1
  have H1 := Lib.hid hA1
  clear hA1 h hm1
  go_enter Tryz.func47, Tryz.ntmps47
  go_wp2
  go_loop [7] (fun i => ∃ k : Nat, k ≤ l.length ∧ i = .int .i64 k ∧ Hid (Valid (l.take k))) (fun i => l.length - (intOf i).toNat)
  case atStart => exact ⟨0, Nat.zero_le _, rfl, Lib.hid ⟨fun _ h => (by cases h), List.Pairwise.nil⟩⟩
  case round =>
    obtain ⟨k, hk, rfl, HR⟩ := hrel
    by_cases hlt : k < l.length
    · obtain ⟨b1, o1, rfl, hb1, hc1⟩ := H1.out (by omega)
      obtain ⟨x, hx⟩ := get_some hlt
      have d1 := hc1 k x hx
      have HX := Lib.hid hx
      clear hx
      by_cases h0 : x < 0
      · have HV : Hid (bOf (Valid l) = false) := Lib.hid (bOf_false fun hv => by have := (valid_at hv HX.out).1; omega)
        clear hc1
        go_wp2_with fail
        go_ret
        exact ⟨ret_bool HV.out.symm, rfl⟩
      · have h0' : decide (x < 0) = false := by simp; omega
        by_cases h9 : 1023 < x
        · have HV : Hid (bOf (Valid l) = false) := Lib.hid (bOf_false fun hv => by have := (valid_at hv HX.out).2.1; omega)
          clear hc1
          go_wp2_with fail
          go_ret
          exact ⟨ret_bool HV.out.symm, rfl⟩
        · have h9' : decide (1023 < x) = false := by simp; omega
          by_cases hk0 : 0 < k
          · obtain ⟨y, hy⟩ := get_some (l := l) (k := k - 1) (by omega)
            have d2 := hc1 (k - 1) y hy
            have HY := Lib.hid hy
            clear hc1 hy
            obtain ⟨j, rfl⟩ : ∃ j, k = j + 1 := ⟨k - 1, by omega⟩
            have q1 : decide ((0 : Int) < ((j + 1 : Nat) : Int)) = true := by simp
            have d3 : w.cell? ⟨b1, o1 + j, none⟩ = some (iV y) := d2
            clear d2
            have wk : ((j + 1 : Nat) : Int) - 1 = (j : Int) := by omega
            have hj1 : (0 : Int) ≤ (j : Int) := by omega
            have hj2 : (j : Int) < (l.length : Int) := by omega
            by_cases hyx : x ≤ y
            · have HV : Hid (bOf (Valid l) = false) := Lib.hid (bOf_false fun hv => by have := (valid_at hv HX.out).2.2 y (by omega) HY.out; omega)
              go_wp2_with fail
              go_ret
              exact ⟨ret_bool HV.out.symm, rfl⟩
            · have hyx' : decide (x ≤ y) = false := by simp; omega
              go_wp2_with fail
              go_round
              case rel => exact ⟨j + 1 + 1, by omega, by go_num, Lib.hid (valid_take_succ HX.out HR.out (by omega) (by omega) (fun z _ hz => by have e := HY.out; rw [hz] at e; injection e with e; omega))⟩
              case measure => simp [intOf]; omega
          · have q0 : decide ((0 : Int) < (k : Int)) = false := by simp; omega
            have q1 : decide (0 < k) = false := by simp; omega
            clear hc1
            go_wp2_with fail
            go_round
            case rel => exact ⟨k + 1, by omega, by go_num, Lib.hid (valid_take_succ HX.out HR.out (by omega) (by omega) (fun z hz _ => by omega))⟩
            case measure => simp [intOf]; omega
    · obtain rfl : k = l.length := by omega
      have HV : Hid (bOf (Valid l) = true) := Lib.hid (bOf_true (by have := HR.out; rwa [List.take_length] at this))
      go_wp2_with fail
      go_ret
      exact ⟨ret_bool HV.out.symm, rfl⟩
end Go.Proofs.YtbmdfnifbimfmaaGreatDoor
