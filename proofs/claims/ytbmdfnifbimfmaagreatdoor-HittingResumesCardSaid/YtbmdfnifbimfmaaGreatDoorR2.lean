/- Walks of the reference: Has, Less, Few, Valid, ValidAll, Hits. -/
import Derived.Test.YtbmdfnifbimfmaaGreatDoorR1
namespace Go.Proofs.YtbmdfnifbimfmaaGreatDoor
open Go.RowKit

set_option maxHeartbeats 1000000 in
theorem rHas_any (v1 v2 : Value) (L : List (List Int)) (s : List Int) (w : World) (h1 : SS w v1 L) (h2 : SI w v2 s) : Calls Tryz.prog 22 #[v1, v2] w fun e w' => e = .returned (.bool (bOf (s ∈ L))) ∧ Below w.heap.size w w' := by
  obtain ⟨A1, c1, rfl, hc1, hm1, hA1⟩ := h1.form
  have g1 : L.length ≤ maxLen := Nat.le_trans hc1 hm1
  unfold maxLen at hm1 g1
  have H1 := Lib.hid hA1
  have H2 := Lib.hid h2
  clear hA1 h1 hm1 h2 hc1
  go_enter Tryz.func22, Tryz.ntmps22
  go_wp2
  go_loopw [5] (fun i wr => ∃ k : Nat, k ≤ L.length ∧ i = .int .i64 k ∧ Hid (s ∉ L.take k) ∧ Below w.heap.size w wr) (fun i _ => L.length - (intOf i).toNat)
  case atStart => exact ⟨0, Nat.zero_le _, rfl, Lib.hid (by simp), Below.refl _ _⟩
  case round =>
    obtain ⟨k, hk, rfl, HR, hB⟩ := hrel
    by_cases hlt : k < L.length
    · obtain ⟨b1, o1, rfl, hb1, hc1⟩ := H1.out (by omega)
      obtain ⟨x, hx⟩ := get_some hlt
      obtain ⟨ux, dx, hux⟩ := hc1 k x hx
      have d1 := (hB.cell (p := ⟨b1, o1 + k, none⟩) hb1).trans dx
      obtain ⟨Ax, cx, rfl⟩ := SI.slice_form hux
      have HUX := Lib.hid (S1.up hux hB)
      have H2' := Lib.hid (S1.up H2.out hB)
      have HX := Lib.hid hx
      clear hc1 hx dx hux
      cases hs : bOf (x = s) with
      | true =>
        have HS := Lib.hid hs
        clear hs
        go_wp2_with fail
        refine (rSame_eq _ _ x s _ HUX.out H2'.out HS.out).mono ?_
        rintro e w1 ⟨rfl, hB1⟩
        go_wp2_with fail
        go_ret
        exact ⟨ret_bool (bOf_true (by rw [← bOf_iff.1 HS.out]; exact List.mem_of_getElem? HX.out)).symm, bAfter hB hB1⟩
      | false =>
        have HS := Lib.hid hs
        clear hs
        go_wp2_with fail
        refine (rSame_eq _ _ x s _ HUX.out H2'.out HS.out).mono ?_
        rintro e w1 ⟨rfl, hB1⟩
        go_wp2_with fail
        go_roundw
        case rel => exact ⟨k + 1, by omega, by go_num, Lib.hid (by
                      rw [take_snoc HX.out]
                      intro hm
                      rcases List.mem_append.1 hm with hm | hm
                      · exact HR.out hm
                      · exact bOf_false_iff.1 HS.out (List.mem_singleton.1 hm).symm), bAfter hB hB1⟩
        case measure => simp [intOf]; omega
    · obtain rfl : k = L.length := by omega
      go_wp2_with fail
      go_ret
      exact ⟨ret_bool (bOf_false (by have := HR.out; rwa [List.take_length] at this)).symm, hB⟩
theorem rHas_eq (v1 v2 : Value) (L : List (List Int)) (s : List Int) (w : World) (h1 : SS w v1 L) (h2 : SI w v2 s) {c : Bool} (hc : bOf (s ∈ L) = c) : Calls Tryz.prog 22 #[v1, v2] w fun e w' => e = .returned (.bool c) ∧ Below w.heap.size w w' := by
  subst hc; exact rHas_any v1 v2 L s w h1 h2

theorem ltS_same {a b : List Int} (hl : a.length = b.length) : ltS a b ↔ cmpL a b < 0 := by
  unfold ltS cmpS; rw [if_neg (by omega), if_neg (by omega)]

set_option maxHeartbeats 1000000 in
theorem rLess_any (v1 v2 : Value) (a b : List Int) (w : World) (h1 : SI w v1 a) (h2 : SI w v2 b) : Calls Tryz.prog 69 #[v1, v2] w fun e w' => e = .returned (.bool (bOf (ltS a b))) ∧ Below w.heap.size w w' := by
  obtain ⟨A1, c1, rfl, _, hm1, hA1⟩ := h1.form
  obtain ⟨A2, c2, rfl, _, hm2, hA2⟩ := h2.form
  have g1 := h1.len_le
  have g2 := h2.len_le
  unfold maxLen at hm1 g1 hm2 g2
  have H1 := Lib.hid hA1
  have H2 := Lib.hid hA2
  clear hA1 h1 hm1 h2 hA2 hm2
  by_cases hl : a.length = b.length
  · have e0 : ((a.length : Int) != (b.length : Int)) = false := by simp [hl]
    have e0' : (a.length != b.length) = false := by simp [hl]
    have HL := Lib.hid hl
    clear hl
    go_enter Tryz.func69, Tryz.ntmps69
    go_wp2
    go_loopw [5] (fun i wr => ∃ k : Nat, k ≤ a.length ∧ i = .int .i64 k ∧ Hid (cmpL a b = cmpL (a.drop k) (b.drop k)) ∧ Below w.heap.size w wr) (fun i _ => a.length - (intOf i).toNat)
    case atStart => exact ⟨0, Nat.zero_le _, rfl, Lib.hid rfl, Below.refl _ _⟩
    case round =>
      obtain ⟨k, hk, rfl, HR, hB⟩ := hrel
      by_cases hlt : k < a.length
      · obtain ⟨b1, o1, rfl, hb1, hc1⟩ := H1.out (by omega)
        obtain ⟨b2, o2, rfl, hb2, hc2⟩ := H2.out (by rw [← HL.out]; omega)
        obtain ⟨x, hx⟩ := get_some hlt
        obtain ⟨y, hy⟩ := get_some (l := b) (k := k) (by rw [← HL.out]; exact hlt)
        have d1 := (hB.cell (p := ⟨b1, o1 + k, none⟩) hb1).trans (hc1 k x hx)
        have d2 := (hB.cell (p := ⟨b2, o2 + k, none⟩) hb2).trans (hc2 k y hy)
        have HX := Lib.hid hx
        have HY := Lib.hid hy
        have q1 : (0 : Int) ≤ (k : Int) := by omega
        have q2 : (k : Int) < (a.length : Int) := by omega
        have q3 : (k : Int) < (b.length : Int) := by rw [← HL.out]; exact q2
        clear hc1 hx hc2 hy
        rcases Int.lt_trichotomy x y with h | h | h
        · have e1 := neq_int_true (Int.ne_of_lt h)
          have e2 : decide (x < y) = true := by simp [h]
          go_wp2_with fail
          go_quiet (fail)
          go_wp2_with fail
          go_quiet (fail)
          go_wp2_with fail
          go_ret
          exact ⟨ret_bool (bOf_true ((ltS_same HL.out).2 (by rw [HR.out, cmpL_lt HX.out HY.out h]; decide))).symm, bDrN (bDrN hB _) _⟩
        · subst h
          have e1 : (x != x) = false := by simp
          go_wp2_with fail
          go_quiet (fail)
          go_wp2_with fail
          go_roundw
          case rel => exact ⟨k + 1, by omega, by go_num, Lib.hid (by rw [HR.out, cmpL_eq HX.out HY.out]), bDrN hB _⟩
          case measure => simp [intOf]; omega
        · have e1 : (x != y) = true := neq_int_true (by omega)
          have e2 : decide (x < y) = false := by simp; omega
          go_wp2_with fail
          go_quiet (fail)
          go_wp2_with fail
          go_quiet (fail)
          go_wp2_with fail
          go_ret
          exact ⟨ret_bool (bOf_false (fun hh => by rw [ltS_same HL.out, HR.out, cmpL_gt HX.out HY.out h] at hh; omega)).symm, bDrN (bDrN hB _) _⟩
      · obtain rfl : k = a.length := by omega
        go_wp2_with fail
        go_ret
        exact ⟨ret_bool (bOf_false (fun hh => by rw [ltS_same HL.out, HR.out, cmpL_same (by rw [HL.out]; exact Nat.le_refl _)] at hh; omega)).symm, hB⟩
  · have e0 : ((a.length : Int) != (b.length : Int)) = true := neq_int_true (by omega)
    by_cases hlt : a.length < b.length
    · have HV : Hid (bOf (ltS a b) = true) := Lib.hid (bOf_true (ltS_of_len hlt))
      go_enter Tryz.func69, Tryz.ntmps69
      go_wp2
      go_ret
      exact ⟨ret_bool HV.out.symm, Below.refl _ _⟩
    · have HV : Hid (bOf (ltS a b) = false) := Lib.hid (bOf_false (fun h => by have := ltS_len h; omega))
      have e2 : decide (a.length < b.length) = false := by simp; omega
      go_enter Tryz.func69, Tryz.ntmps69
      go_wp2
      go_ret
      exact ⟨ret_bool (by rw [HV.out]), Below.refl _ _⟩
theorem rLess_eq (v1 v2 : Value) (a b : List Int) (w : World) (h1 : SI w v1 a) (h2 : SI w v2 b) {c : Bool} (hc : bOf (ltS a b) = c) : Calls Tryz.prog 69 #[v1, v2] w fun e w' => e = .returned (.bool c) ∧ Below w.heap.size w w' := by
  subst hc; exact rLess_any v1 v2 a b w h1 h2

/-- Few sets with few elements. -/
def Few (L : List (List Int)) (n : Nat) : Prop := L.length ≤ n ∧ ∀ l ∈ L, l.length ≤ 6
set_option maxHeartbeats 1000000 in
theorem rFew_any (v : Value) (L : List (List Int)) (n : Nat) (w : World) (h : SS w v L) (hn : n ≤ 1000) : Calls Tryz.prog 10 #[v, .int .i64 n] w fun e w' => e = .returned (.bool (bOf (Few L n))) ∧ w = w' := by
  obtain ⟨A1, c1, rfl, hc1, hm1, hA1⟩ := h.form
  have g1 : L.length ≤ maxLen := Nat.le_trans hc1 hm1
  unfold maxLen at hm1 g1
  have H1 := Lib.hid hA1
  clear hA1 h hm1 hc1
  by_cases hl : n < L.length
  · have HV : Hid (bOf (Few L n) = false) := Lib.hid (bOf_false fun h => by have := h.1; omega)
    go_enter Tryz.func10, Tryz.ntmps10
    go_wp2
    go_ret
    exact ⟨ret_bool HV.out.symm, rfl⟩
  · have e0 : decide (n < L.length) = false := by simp; omega
    go_enter Tryz.func10, Tryz.ntmps10
    go_wp2
    go_loop [5] (fun i => ∃ k : Nat, k ≤ L.length ∧ i = .int .i64 k ∧ Hid (∀ l ∈ L.take k, l.length ≤ 6)) (fun i => L.length - (intOf i).toNat)
    case atStart => exact ⟨0, Nat.zero_le _, rfl, Lib.hid fun _ h => by cases h⟩
    case round =>
      obtain ⟨k, hk, rfl, HR⟩ := hrel
      by_cases hlt : k < L.length
      · obtain ⟨b1, o1, rfl, hb1, hc1⟩ := H1.out (by omega)
        obtain ⟨x, hx⟩ := get_some hlt
        obtain ⟨ux, d1, hux⟩ := hc1 k x hx
        have gx := hux.len_le
        unfold maxLen at gx
        obtain ⟨Ax, cx, rfl⟩ := SI.slice_form hux
        have HX := Lib.hid hx
        clear hc1 hx hux
        by_cases h6 : 6 < x.length
        · go_wp2_with fail
          go_ret
          exact ⟨ret_bool (bOf_false fun h => by have := h.2 x (List.mem_of_getElem? HX.out); omega).symm, rfl⟩
        · have e6 : decide (6 < x.length) = false := by simp; omega
          have e6' : decide ((6 : Int) < (x.length : Int)) = false := by simp; omega
          go_wp2_with fail
          go_round
          case rel => exact ⟨k + 1, by omega, by go_num, Lib.hid fun l hl' => by
                        rw [take_snoc HX.out] at hl'
                        rcases List.mem_append.1 hl' with hl' | hl'
                        · exact HR.out l hl'
                        · rw [List.mem_singleton.1 hl']; omega⟩
          case measure => simp [intOf]; omega
      · obtain rfl : k = L.length := by omega
        go_wp2_with fail
        go_ret
        exact ⟨ret_bool (bOf_true ⟨by omega, by have := HR.out; rwa [List.take_length] at this⟩).symm, rfl⟩
theorem rFew_eq (v : Value) (L : List (List Int)) (n : Nat) (w : World) (h : SS w v L) (hn : n ≤ 1000) {c : Bool} (hc : bOf (Few L n) = c) : Calls Tryz.prog 10 #[v, .int .i64 n] w fun e w' => e = .returned (.bool c) ∧ w = w' := by
  subst hc; exact rFew_any v L n w h hn

set_option maxRecDepth 100000 in
set_option maxHeartbeats 2000000 in
theorem rValid_any (v : Value) (l : List Int) (w : World) (h : SI w v l) :
    Calls Tryz.prog 49 #[v] w fun e w' => e = .returned (.bool (bOf (Valid l))) ∧ Below w.heap.size w w' := by
  obtain ⟨A1, c1, rfl, _, hm1, hA1⟩ := h.form
  have g1 := h.len_le
  unfold maxLen at hm1 g1
  have H1 := Lib.hid hA1
  clear hA1 h hm1
  go_enter Tryz.func49, Tryz.ntmps49
  go_wp2
  go_loopw [3] (fun i wr => ∃ k : Nat, k ≤ l.length ∧ i = .int .i64 k ∧ Hid (Valid (l.take k)) ∧ Below w.heap.size w wr) (fun i _ => l.length - (intOf i).toNat)
  case atStart => exact ⟨0, Nat.zero_le _, rfl, Lib.hid ⟨fun _ h => (by cases h), List.Pairwise.nil⟩, Below.refl _ _⟩
  case round =>
    obtain ⟨k, hk, rfl, HR, hB⟩ := hrel
    by_cases hlt : k < l.length
    · obtain ⟨b1, o1, rfl, hb1, hc1⟩ := H1.out (by omega)
      obtain ⟨x, hx⟩ := get_some hlt
      have d1 := (hB.cell (p := ⟨b1, o1 + k, none⟩) hb1).trans (hc1 k x hx)
      have HX := Lib.hid hx
      have q1 : (0 : Int) ≤ (k : Int) := by omega
      have q2 : (k : Int) < (l.length : Int) := by omega
      clear hx
      by_cases h0 : x < 0
      · have h0' : decide (x < 0) = true := by simp [h0]
        have HV : Hid (bOf (Valid l) = false) := Lib.hid (bOf_false fun hv => by have := (valid_at hv HX.out).1; omega)
        clear hc1
        go_wp2_with fail
        go_quiet (fail)
        go_wp2_with fail
        go_ret
        exact ⟨ret_bool HV.out.symm, bDrN hB _⟩
      · have h0' : decide (x < 0) = false := by simp; omega
        by_cases h9 : 1023 < x
        · have h9' : decide (1023 < x) = true := by simp [h9]
          have HV : Hid (bOf (Valid l) = false) := Lib.hid (bOf_false fun hv => by have := (valid_at hv HX.out).2.1; omega)
          clear hc1
          go_wp2_with fail
          go_quiet (fail)
          go_wp2_with fail
          go_ret
          exact ⟨ret_bool HV.out.symm, bDrN hB _⟩
        · have h9' : decide (1023 < x) = false := by simp; omega
          by_cases hk0 : 0 < k
          · obtain ⟨y, hy⟩ := get_some (l := l) (k := k - 1) (by omega)
            have d2 := (hB.cell (p := ⟨b1, o1 + (k - 1), none⟩) hb1).trans (hc1 (k - 1) y hy)
            have HY := Lib.hid hy
            clear hc1 hy
            obtain ⟨j, rfl⟩ : ∃ j, k = j + 1 := ⟨k - 1, by omega⟩
            have p1 : decide ((0 : Int) < ((j + 1 : Nat) : Int)) = true := by simp
            have d3 : wr.cell? ⟨b1, o1 + j, none⟩ = some (iV y) := d2
            clear d2
            have hj1 : (0 : Int) ≤ (j : Int) := by omega
            have hj2 : (j : Int) < (l.length : Int) := by omega
            by_cases hyx : x ≤ y
            · have hyx' : decide (x ≤ y) = true := by simp [hyx]
              have HV : Hid (bOf (Valid l) = false) := Lib.hid (bOf_false fun hv => by have := (valid_at hv HX.out).2.2 y (by omega) HY.out; omega)
              have wk : IntKind.i64.wrap (((j + 1 : Nat) : Int) - 1) = (j : Int) := by rw [IntWalk.i64_in _ (by omega)]; omega
              go_wp2_with fail
              go_quiet (fail)
              clear wk
              go_wp2_with fail
              go_ret
              exact ⟨ret_bool HV.out.symm, bDrN hB _⟩
            · have hyx' : decide (x ≤ y) = false := by simp; omega
              have wk : IntKind.i64.wrap (((j + 1 : Nat) : Int) - 1) = (j : Int) := by rw [IntWalk.i64_in _ (by omega)]; omega
              go_wp2_with fail
              go_quiet (fail)
              clear wk
              go_wp2_with fail
              go_roundw
              case rel => exact ⟨j + 1 + 1, by omega, by go_num, Lib.hid (valid_take_succ HX.out HR.out (by omega) (by omega) (fun z _ hz => by have e := HY.out; rw [hz] at e; injection e with e; omega)), bDrN hB _⟩
              case measure => simp [intOf]; omega
          · have p0 : decide ((0 : Int) < (k : Int)) = false := by simp; omega
            have p1 : decide (0 < k) = false := by simp; omega
            clear hc1
            go_wp2_with fail
            go_quiet (fail)
            go_wp2_with fail
            go_roundw
            case rel => exact ⟨k + 1, by omega, by go_num, Lib.hid (valid_take_succ HX.out HR.out (by omega) (by omega) (fun z hz _ => by omega)), bDrN hB _⟩
            case measure => simp [intOf]; omega
    · obtain rfl : k = l.length := by omega
      have HV : Hid (bOf (Valid l) = true) := Lib.hid (bOf_true (by have := HR.out; rwa [List.take_length] at this))
      go_wp2_with fail
      go_ret
      exact ⟨ret_bool HV.out.symm, hB⟩
theorem rValid_eq (v : Value) (l : List Int) (w : World) (h : SI w v l) {b : Bool} (hb : bOf (Valid l) = b) : Calls Tryz.prog 49 #[v] w fun e w' => e = .returned (.bool b) ∧ Below w.heap.size w w' := by
  subst hb; exact rValid_any v l w h

set_option maxHeartbeats 1000000 in
theorem rValidAll_any (v : Value) (L : List (List Int)) (w : World) (h : SS w v L) :
    Calls Tryz.prog 29 #[v] w fun e w' => e = .returned (.bool (bOf (ValidAll L))) ∧ Below w.heap.size w w' := by
  obtain ⟨A1, c1, rfl, hc1, hm1, hA1⟩ := h.form
  have g1 : L.length ≤ maxLen := Nat.le_trans hc1 hm1
  unfold maxLen at hm1 g1
  have H1 := Lib.hid hA1
  clear hA1 h hc1
  go_enter Tryz.func29, Tryz.ntmps29
  go_wp2
  go_loopw [3] (fun i wr => ∃ k : Nat, k ≤ L.length ∧ i = .int .i64 k ∧ Hid (∀ l ∈ L.take k, Valid l) ∧ Below w.heap.size w wr) (fun i _ => L.length - (intOf i).toNat)
  case atStart => exact ⟨0, Nat.zero_le _, rfl, Lib.hid (fun _ h => by cases h), Below.refl _ _⟩
  case round =>
    obtain ⟨k, hk, rfl, HR, hB⟩ := hrel
    by_cases hlt : k < L.length
    · obtain ⟨b1, o1, rfl, hb1, hcell⟩ := H1.out (by omega)
      obtain ⟨x, hx⟩ := get_some hlt
      obtain ⟨u, d0, hu⟩ := hcell k x hx
      obtain ⟨Au, cu, rfl⟩ := SI.slice_form hu
      have d1 := (hB.cell (p := ⟨b1, o1 + k, none⟩) hb1).trans d0
      have HX := Lib.hid hx
      have HU := Lib.hid (S1.up hu hB)
      clear hx hu hcell d0
      cases hv : bOf (Valid x) with
      | true =>
        have HV := Lib.hid hv
        clear hv
        go_wp2_with fail
        refine (rValid_eq _ x _ HU.out HV.out).mono ?_
        rintro e w1 ⟨rfl, hB1⟩
        go_wp2_with fail
        go_roundw
        case rel => exact ⟨k + 1, by omega, by go_num, Lib.hid (fun l hl => by
                      rw [take_snoc HX.out] at hl
                      rcases List.mem_append.1 hl with hl | hl
                      · exact HR.out l hl
                      · rw [List.mem_singleton.1 hl]; exact bOf_iff.1 HV.out), bAfter hB hB1⟩
        case measure => simp [intOf]; omega
      | false =>
        have HV := Lib.hid hv
        clear hv
        go_wp2_with fail
        refine (rValid_eq _ x _ HU.out HV.out).mono ?_
        rintro e w1 ⟨rfl, hB1⟩
        go_wp2_with fail
        go_ret
        exact ⟨ret_bool (bOf_false fun h => bOf_false_iff.1 HV.out (h x (List.mem_of_getElem? HX.out))).symm, bAfter hB hB1⟩
    · obtain rfl : k = L.length := by omega
      go_wp2_with fail
      go_ret
      exact ⟨ret_bool (bOf_true (by have := HR.out; rwa [List.take_length] at this)).symm, hB⟩
theorem rValidAll_eq (v : Value) (L : List (List Int)) (w : World) (h : SS w v L) {b : Bool} (hb : bOf (ValidAll L) = b) : Calls Tryz.prog 29 #[v] w fun e w' => e = .returned (.bool b) ∧ Below w.heap.size w w' := by
  subst hb; exact rValidAll_any v L w h

set_option maxHeartbeats 1000000 in
theorem rHits_any (v1 v2 : Value) (L : List (List Int)) (s : List Int) (w : World) (h1 : SS w v1 L) (h2 : SI w v2 s) :
    Calls Tryz.prog 15 #[v1, v2] w fun e w' => e = .returned (.bool (bOf (∀ l ∈ L, Meet s l))) ∧ w = w' := by
  obtain ⟨A1, c1, rfl, hc1, hm1, hA1⟩ := h1.form
  have g1 : L.length ≤ maxLen := Nat.le_trans hc1 hm1
  unfold maxLen at hm1 g1
  have H1 := Lib.hid hA1
  have H2 := Lib.hid h2
  clear hA1 h1 hc1 h2
  go_enter Tryz.func15, Tryz.ntmps15
  go_wp2
  go_loop [5] (fun i => ∃ k : Nat, k ≤ L.length ∧ i = .int .i64 k ∧ Hid (∀ l ∈ L.take k, Meet s l)) (fun i => L.length - (intOf i).toNat)
  case atStart => exact ⟨0, Nat.zero_le _, rfl, Lib.hid (fun _ h => by cases h)⟩
  case round =>
    obtain ⟨k, hk, rfl, HR⟩ := hrel
    by_cases hlt : k < L.length
    · obtain ⟨b1, o1, rfl, hb1, hcell⟩ := H1.out (by omega)
      obtain ⟨x, hx⟩ := get_some hlt
      obtain ⟨u, d1, hu⟩ := hcell k x hx
      obtain ⟨Au, cu, rfl⟩ := SI.slice_form hu
      have HX := Lib.hid hx
      have HU := Lib.hid hu
      clear hx hu hcell
      cases hv : bOf (Meet x s) with
      | true =>
        have HV := Lib.hid hv
        clear hv
        go_wp2_with fail
        refine (rHit_eq _ _ x s _ HU.out H2.out HV.out).mono ?_
        rintro e w1 ⟨rfl, rfl⟩
        go_wp2_with fail
        go_round
        case rel => exact ⟨k + 1, by omega, by go_num, Lib.hid (fun l hl => by
                      rw [take_snoc HX.out] at hl
                      rcases List.mem_append.1 hl with hl | hl
                      · exact HR.out l hl
                      · rw [List.mem_singleton.1 hl]; obtain ⟨y, h3, h4⟩ := bOf_iff.1 HV.out; exact ⟨y, h4, h3⟩)⟩
        case measure => simp [intOf]; omega
      | false =>
        have HV := Lib.hid hv
        clear hv
        go_wp2_with fail
        refine (rHit_eq _ _ x s _ HU.out H2.out HV.out).mono ?_
        rintro e w1 ⟨rfl, rfl⟩
        go_wp2_with fail
        go_ret
        exact ⟨ret_bool (bOf_false fun h => bOf_false_iff.1 HV.out (by obtain ⟨y, h3, h4⟩ := h x (List.mem_of_getElem? HX.out); exact ⟨y, h4, h3⟩)).symm, rfl⟩
    · obtain rfl : k = L.length := by omega
      go_wp2_with fail
      go_ret
      exact ⟨ret_bool (bOf_true (by have := HR.out; rwa [List.take_length] at this)).symm, rfl⟩
end Go.Proofs.YtbmdfnifbimfmaaGreatDoor
