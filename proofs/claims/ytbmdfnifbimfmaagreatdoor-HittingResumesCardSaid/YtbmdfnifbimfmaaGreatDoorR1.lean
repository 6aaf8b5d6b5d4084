/- Walks of the reference: Member, Within, Hit, Same, SameAll, Has, Less, Few, Valid, ValidAll, Hits. -/
import Derived.Test.YtbmdfnifbimfmaaGreatDoorH8
namespace Go.Proofs.YtbmdfnifbimfmaaGreatDoor
open Go.RowKit

theorem neq_int_true {k m : Int} (h : k ≠ m) : (k != m) = true := by simp [h]
theorem below_refl (w : World) : Below w.heap.size w w := Below.refl _ _

set_option maxHeartbeats 1000000 in
theorem rMember_any (v : Value) (l : List Int) (n : Int) (w : World) (h : SI w v l) : Calls Tryz.prog 45 #[v, .int .i64 n] w fun e w' => e = .returned (.bool (bOf (n ∈ l))) ∧ w = w' := by
  obtain ⟨A1, c1, rfl, _, hm1, hA1⟩ := h.form
  have g1 := h.len_le
  unfold maxLen at hm1 g1
  have H1 := Lib.hid hA1
  clear hA1 h hm1
  go_enter Tryz.func45, Tryz.ntmps45
  go_wp2
  go_loop [5] (fun i => ∃ k : Nat, k ≤ l.length ∧ i = .int .i64 k ∧ Hid (∀ x ∈ l.take k, x ≠ n)) (fun i => l.length - (intOf i).toNat)
  case atStart => exact ⟨0, Nat.zero_le _, rfl, Lib.hid fun _ h => by cases h⟩
  case round =>
    obtain ⟨k, hk, rfl, HR⟩ := hrel
    by_cases hlt : k < l.length
    · obtain ⟨b1, o1, rfl, hb1, hc1⟩ := H1.out (by omega)
      obtain ⟨x, hx⟩ := get_some hlt
      have d1 := hc1 k x hx
      have HX := Lib.hid hx
      clear hc1 hx
      by_cases hxn : x = n
      · subst hxn
        have e1 : (x == x) = true := by simp
        go_wp2_with fail
        go_ret
        exact ⟨ret_bool (bOf_true (List.mem_of_getElem? HX.out)).symm, rfl⟩
      · have e1 : (x == n) = false := beq_eq_false_iff_ne.2 hxn
        go_wp2_with fail
        go_round
        case rel => exact ⟨k + 1, by omega, by go_num, Lib.hid fun y hy => by
                      rw [take_snoc HX.out] at hy
                      rcases List.mem_append.1 hy with hy | hy
                      · exact HR.out y hy
                      · rw [List.mem_singleton.1 hy]; exact hxn⟩
        case measure => simp [intOf]; omega
    · obtain rfl : k = l.length := by omega
      go_wp2_with fail
      go_ret
      exact ⟨ret_bool (bOf_false (by have := HR.out; rw [List.take_length] at this; exact fun h => this n h rfl)).symm, rfl⟩
theorem rMember_eq (v : Value) (l : List Int) (n : Int) (w : World) (h : SI w v l) {b : Bool} (hb : bOf (n ∈ l) = b) : Calls Tryz.prog 45 #[v, .int .i64 n] w fun e w' => e = .returned (.bool b) ∧ w = w' := by
  subst hb; exact rMember_any v l n w h

set_option maxHeartbeats 1000000 in
theorem rWithin_any (v1 v2 : Value) (a b : List Int) (w : World) (h1 : SI w v1 a) (h2 : SI w v2 b) : Calls Tryz.prog 23 #[v1, v2] w fun e w' => e = .returned (.bool (bOf (Sub a b))) ∧ w = w' := by
  obtain ⟨A1, c1, rfl, _, hm1, hA1⟩ := h1.form
  have g1 := h1.len_le
  unfold maxLen at hm1 g1
  have H1 := Lib.hid hA1
  have H2 := Lib.hid h2
  clear hA1 h1 hm1 h2
  go_enter Tryz.func23, Tryz.ntmps23
  go_wp2
  go_loop [5] (fun i => ∃ k : Nat, k ≤ a.length ∧ i = .int .i64 k ∧ Hid (∀ x ∈ a.take k, x ∈ b)) (fun i => a.length - (intOf i).toNat)
  case atStart => exact ⟨0, Nat.zero_le _, rfl, Lib.hid fun _ h => by cases h⟩
  case round =>
    obtain ⟨k, hk, rfl, HR⟩ := hrel
    by_cases hlt : k < a.length
    · obtain ⟨b1, o1, rfl, hb1, hc1⟩ := H1.out (by omega)
      obtain ⟨x, hx⟩ := get_some hlt
      have d1 := hc1 k x hx
      have HX := Lib.hid hx
      clear hc1 hx
      cases hin : bOf (x ∈ b) with
      | true =>
        have HI := Lib.hid hin
        clear hin
        go_wp2_with fail
        refine (rMember_eq _ b x _ H2.out HI.out).mono ?_
        rintro e w1 ⟨rfl, rfl⟩
        go_wp2_with fail
        go_round
        case rel => exact ⟨k + 1, by omega, by go_num, Lib.hid fun y hy => by
                      rw [take_snoc HX.out] at hy
                      rcases List.mem_append.1 hy with hy | hy
                      · exact HR.out y hy
                      · rw [List.mem_singleton.1 hy]; exact bOf_iff.1 HI.out⟩
        case measure => simp [intOf]; omega
      | false =>
        have HI := Lib.hid hin
        clear hin
        go_wp2_with fail
        refine (rMember_eq _ b x _ H2.out HI.out).mono ?_
        rintro e w1 ⟨rfl, rfl⟩
        go_wp2_with fail
        go_ret
        exact ⟨ret_bool (bOf_false fun h => bOf_false_iff.1 HI.out (h x (List.mem_of_getElem? HX.out))).symm, rfl⟩
    · obtain rfl : k = a.length := by omega
      go_wp2_with fail
      go_ret
      exact ⟨ret_bool (bOf_true (by have := HR.out; rw [List.take_length] at this; exact this)).symm, rfl⟩
theorem rWithin_eq (v1 v2 : Value) (a b : List Int) (w : World) (h1 : SI w v1 a) (h2 : SI w v2 b) {c : Bool} (hc : bOf (Sub a b) = c) : Calls Tryz.prog 23 #[v1, v2] w fun e w' => e = .returned (.bool c) ∧ w = w' := by
  subst hc; exact rWithin_any v1 v2 a b w h1 h2

set_option maxHeartbeats 1000000 in
theorem rHit_any (v1 v2 : Value) (a b : List Int) (w : World) (h1 : SI w v1 a) (h2 : SI w v2 b) : Calls Tryz.prog 24 #[v1, v2] w fun e w' => e = .returned (.bool (bOf (Meet a b))) ∧ w = w' := by
  obtain ⟨A1, c1, rfl, _, hm1, hA1⟩ := h1.form
  have g1 := h1.len_le
  unfold maxLen at hm1 g1
  have H1 := Lib.hid hA1
  have H2 := Lib.hid h2
  clear hA1 h1 hm1 h2
  go_enter Tryz.func24, Tryz.ntmps24
  go_wp2
  go_loop [5] (fun i => ∃ k : Nat, k ≤ a.length ∧ i = .int .i64 k ∧ Hid (∀ x ∈ a.take k, x ∉ b)) (fun i => a.length - (intOf i).toNat)
  case atStart => exact ⟨0, Nat.zero_le _, rfl, Lib.hid fun _ h => by cases h⟩
  case round =>
    obtain ⟨k, hk, rfl, HR⟩ := hrel
    by_cases hlt : k < a.length
    · obtain ⟨b1, o1, rfl, hb1, hc1⟩ := H1.out (by omega)
      obtain ⟨x, hx⟩ := get_some hlt
      have d1 := hc1 k x hx
      have HX := Lib.hid hx
      clear hc1 hx
      cases hin : bOf (x ∈ b) with
      | false =>
        have HI := Lib.hid hin
        clear hin
        go_wp2_with fail
        refine (rMember_eq _ b x _ H2.out HI.out).mono ?_
        rintro e w1 ⟨rfl, rfl⟩
        go_wp2_with fail
        go_round
        case rel => exact ⟨k + 1, by omega, by go_num, Lib.hid fun y hy => by
                      rw [take_snoc HX.out] at hy
                      rcases List.mem_append.1 hy with hy | hy
                      · exact HR.out y hy
                      · rw [List.mem_singleton.1 hy]; exact bOf_false_iff.1 HI.out⟩
        case measure => simp [intOf]; omega
      | true =>
        have HI := Lib.hid hin
        clear hin
        go_wp2_with fail
        refine (rMember_eq _ b x _ H2.out HI.out).mono ?_
        rintro e w1 ⟨rfl, rfl⟩
        go_wp2_with fail
        go_ret
        exact ⟨ret_bool (bOf_true ⟨x, List.mem_of_getElem? HX.out, bOf_iff.1 HI.out⟩).symm, rfl⟩
    · obtain rfl : k = a.length := by omega
      go_wp2_with fail
      go_ret
      exact ⟨ret_bool (bOf_false (by have := HR.out; rw [List.take_length] at this; rintro ⟨x, h1, h2⟩; exact this x h1 h2)).symm, rfl⟩
theorem rHit_eq (v1 v2 : Value) (a b : List Int) (w : World) (h1 : SI w v1 a) (h2 : SI w v2 b) {c : Bool} (hc : bOf (Meet a b) = c) : Calls Tryz.prog 24 #[v1, v2] w fun e w' => e = .returned (.bool c) ∧ w = w' := by
  subst hc; exact rHit_any v1 v2 a b w h1 h2

theorem ext_take {α : Type} {a b : List α} (hl : a.length = b.length) (h : a.take a.length = b.take a.length) : a = b := by
  rw [List.take_length, hl, List.take_length] at h; exact h

set_option maxHeartbeats 1000000 in
theorem rSame_any (v1 v2 : Value) (a b : List Int) (w : World) (h1 : SI w v1 a) (h2 : SI w v2 b) : Calls Tryz.prog 31 #[v1, v2] w fun e w' => e = .returned (.bool (bOf (a = b))) ∧ Below w.heap.size w w' := by
  obtain ⟨A1, c1, rfl, _, hm1, hA1⟩ := h1.form
  obtain ⟨A2, c2, rfl, _, hm2, hA2⟩ := h2.form
  have g1 := h1.len_le
  have g2 := h2.len_le
  unfold maxLen at hm1 g1 hm2 g2
  have H1 := Lib.hid hA1
  have H2 := Lib.hid hA2
  clear hA1 h1 hm1 h2 hA2 hm2
  by_cases hl : a.length = b.length
  · have e0 : ((a.length : Int) != (b.length : Int)) = false := by simp [hl]
    have e0' : (a.length != b.length) = false := by simp [hl]
    have HL := Lib.hid hl
    clear hl
    go_enter Tryz.func31, Tryz.ntmps31
    go_wp2
    go_loopw [5] (fun i wr => ∃ k : Nat, k ≤ a.length ∧ i = .int .i64 k ∧ Hid (a.take k = b.take k) ∧ Below w.heap.size w wr) (fun i _ => a.length - (intOf i).toNat)
    case atStart => exact ⟨0, Nat.zero_le _, rfl, Lib.hid rfl, Below.refl _ _⟩
    case round =>
      obtain ⟨k, hk, rfl, HR, hB⟩ := hrel
      by_cases hlt : k < a.length
      · obtain ⟨b1, o1, rfl, hb1, hc1⟩ := H1.out (by omega)
        obtain ⟨b2, o2, rfl, hb2, hc2⟩ := H2.out (by rw [← HL.out]; omega)
        obtain ⟨x, hx⟩ := get_some hlt
        obtain ⟨y, hy⟩ := get_some (l := b) (k := k) (by rw [← HL.out]; exact hlt)
        have d1 := (hB.cell (p := ⟨b1, o1 + k, none⟩) hb1).trans (hc1 k x hx)
        have d2 := (hB.cell (p := ⟨b2, o2 + k, none⟩) hb2).trans (hc2 k y hy)
        have HX := Lib.hid hx
        have HY := Lib.hid hy
        have q1 : (0 : Int) ≤ (k : Int) := by omega
        have q2 : (k : Int) < (a.length : Int) := by omega
        have q3 : (k : Int) < (b.length : Int) := by rw [← HL.out]; exact q2
        clear hc1 hx hc2 hy
        by_cases hxn : x = y
        · subst hxn
          have e1 : (x != x) = false := by simp
          go_wp2_with fail
          go_quiet (fail)
          go_wp2_with fail
          go_roundw
          case rel => exact ⟨k + 1, by omega, by go_num, Lib.hid (by rw [take_snoc HX.out, take_snoc HY.out, HR.out]), bDrN hB _⟩
          case measure => simp [intOf]; omega
        · have e1 := neq_int_true hxn
          go_wp2_with fail
          go_quiet (fail)
          go_wp2_with fail
          go_ret
          exact ⟨ret_bool (bOf_false (fun h => hxn (by have := HX.out; rw [h, HY.out] at this; injection this with this; exact this.symm))).symm, bDrN hB _⟩
      · obtain rfl : k = a.length := by omega
        go_wp2_with fail
        go_ret
        exact ⟨ret_bool (bOf_true (ext_take HL.out HR.out)).symm, hB⟩
  · have e0 : ((a.length : Int) != (b.length : Int)) = true := neq_int_true (by omega)
    go_enter Tryz.func31, Tryz.ntmps31
    go_wp2
    go_ret
    exact ⟨ret_bool (bOf_false (fun h => hl (by rw [h]))).symm, Below.refl _ _⟩
theorem rSame_eq (v1 v2 : Value) (a b : List Int) (w : World) (h1 : SI w v1 a) (h2 : SI w v2 b) {c : Bool} (hc : bOf (a = b) = c) : Calls Tryz.prog 31 #[v1, v2] w fun e w' => e = .returned (.bool c) ∧ Below w.heap.size w w' := by
  subst hc; exact rSame_any v1 v2 a b w h1 h2
theorem later_same {w : World} {s : Later w} {v1 v2 : Value} {a b : List Int} (h1 : SI w v1 a) (h2 : SI w v2 b) {c : Bool} (hc : bOf (a = b) = c) :
    Calls Tryz.prog 31 #[v1, v2] s.at fun e w'' => e = .returned (.bool c) ∧ ∃ s' : Later w, w'' = s'.at :=
  later_of (rSame_eq v1 v2 a b _ (S1.up h1 s.below) (S1.up h2 s.below) hc)

set_option maxHeartbeats 1000000 in
theorem rSameAll_any (v1 v2 : Value) (a b : List (List Int)) (w : World) (h1 : SS w v1 a) (h2 : SS w v2 b) : Calls Tryz.prog 13 #[v1, v2] w fun e w' => e = .returned (.bool (bOf (a = b))) ∧ Below w.heap.size w w' := by
  obtain ⟨A1, c1, rfl, hc1, hm1, hA1⟩ := h1.form
  obtain ⟨A2, c2, rfl, hc2, hm2, hA2⟩ := h2.form
  have g1 : a.length ≤ maxLen := Nat.le_trans hc1 hm1
  have g2 : b.length ≤ maxLen := Nat.le_trans hc2 hm2
  unfold maxLen at hm1 g1 hm2 g2
  have H1 := Lib.hid hA1
  have H2 := Lib.hid hA2
  clear hA1 h1 hm1 h2 hA2 hm2 hc1 hc2
  by_cases hl : a.length = b.length
  · have e0 : ((a.length : Int) != (b.length : Int)) = false := by simp [hl]
    have e0' : (a.length != b.length) = false := by simp [hl]
    have HL := Lib.hid hl
    clear hl
    go_enter Tryz.func13, Tryz.ntmps13
    go_wp2
    go_loopw [5] (fun i wr => ∃ k : Nat, k ≤ a.length ∧ i = .int .i64 k ∧ Hid (a.take k = b.take k) ∧ Below w.heap.size w wr) (fun i _ => a.length - (intOf i).toNat)
    case atStart => exact ⟨0, Nat.zero_le _, rfl, Lib.hid rfl, Below.refl _ _⟩
    case round =>
      obtain ⟨k, hk, rfl, HR, hB⟩ := hrel
      by_cases hlt : k < a.length
      · obtain ⟨b1, o1, rfl, hb1, hc1⟩ := H1.out (by omega)
        obtain ⟨b2, o2, rfl, hb2, hc2⟩ := H2.out (by rw [← HL.out]; omega)
        obtain ⟨x, hx⟩ := get_some hlt
        obtain ⟨y, hy⟩ := get_some (l := b) (k := k) (by rw [← HL.out]; exact hlt)
        obtain ⟨ux, dx, hux⟩ := hc1 k x hx
        obtain ⟨uy, dy, huy⟩ := hc2 k y hy
        have d1 := later_old ((hB.cell (p := ⟨b1, o1 + k, none⟩) hb1).trans dx)
        have d2 := later_old ((hB.cell (p := ⟨b2, o2 + k, none⟩) hb2).trans dy)
        obtain ⟨Ax, cx, rfl⟩ := SI.slice_form hux
        obtain ⟨Ay, cy, rfl⟩ := SI.slice_form huy
        have HUX := Lib.hid (S1.up hux hB)
        have HUY := Lib.hid (S1.up huy hB)
        have HX := Lib.hid hx
        have HY := Lib.hid hy
        have q1 : (0 : Int) ≤ (k : Int) := by omega
        have q2 : (k : Int) < (a.length : Int) := by omega
        have q3 : (k : Int) < (b.length : Int) := by rw [← HL.out]; exact q2
        clear hc1 hx hc2 hy dx dy hux huy
        cases hs : bOf (x = y) with
        | true =>
          have HS := Lib.hid hs
          clear hs
          go_wp2_with fail
          refine wp_region_later (by kernel_rfl) (by kernel_rfl) ?_
          repeat (first | go_big_quiet_step (with_reducible exact later_same HUX.out HUY.out HS.out) | quiet_step (with_reducible exact later_same HUX.out HUY.out HS.out))
          refine wpQuiet_nil ?_
          rintro _ ⟨s, rfl⟩
          have hB1 := s.below
          generalize s.at = w1 at *
          clear d1 d2
          go_wp2_with fail
          go_roundw
          case rel => exact ⟨k + 1, by omega, by go_num, Lib.hid (by rw [take_snoc HX.out, take_snoc HY.out, HR.out, bOf_iff.1 HS.out]), bAfter hB hB1⟩
          case measure => simp [intOf]; omega
        | false =>
          have HS := Lib.hid hs
          clear hs
          go_wp2_with fail
          refine wp_region_later (by kernel_rfl) (by kernel_rfl) ?_
          repeat (first | go_big_quiet_step (with_reducible exact later_same HUX.out HUY.out HS.out) | quiet_step (with_reducible exact later_same HUX.out HUY.out HS.out))
          refine wpQuiet_nil ?_
          rintro _ ⟨s, rfl⟩
          have hB1 := s.below
          generalize s.at = w1 at *
          clear d1 d2
          go_wp2_with fail
          go_ret
          exact ⟨ret_bool (bOf_false (fun h => bOf_false_iff.1 HS.out (by have := HX.out; rw [h, HY.out] at this; injection this with this; exact this.symm))).symm, bAfter hB hB1⟩
      · obtain rfl : k = a.length := by omega
        go_wp2_with fail
        go_ret
        exact ⟨ret_bool (bOf_true (ext_take HL.out HR.out)).symm, hB⟩
  · have e0 : ((a.length : Int) != (b.length : Int)) = true := neq_int_true (by omega)
    go_enter Tryz.func13, Tryz.ntmps13
    go_wp2
    go_ret
    exact ⟨ret_bool (bOf_false (fun h => hl (by rw [h]))).symm, Below.refl _ _⟩
theorem rSameAll_eq (v1 v2 : Value) (a b : List (List Int)) (w : World) (h1 : SS w v1 a) (h2 : SS w v2 b) {c : Bool} (hc : bOf (a = b) = c) : Calls Tryz.prog 13 #[v1, v2] w fun e w' => e = .returned (.bool c) ∧ Below w.heap.size w w' := by
  subst hc; exact rSameAll_any v1 v2 a b w h1 h2
end Go.Proofs.YtbmdfnifbimfmaaGreatDoor
