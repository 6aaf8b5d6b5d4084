/- Walks: valid, within, properly, meets, Hits. -/
import Derived.Test.YtbmdfnifbimfmaaGreatDoorH1
namespace Go.Proofs.YtbmdfnifbimfmaaGreatDoor
open Go.RowKit

theorem validSet_eq (v : Value) (l : List Int) (w : World) (h : SI w v l) {b : Bool} (hb : bOf (Valid l) = b) : Calls Tryz.prog 47 #[v] w fun e w' => e = .returned (.bool b) ∧ w = w' := by
  subst hb; exact validSet_any v l w h

set_option maxHeartbeats 1000000 in
theorem valid_any (v : Value) (L : List (List Int)) (w : World) (h : SS w v L) :
    Calls Tryz.prog 27 #[v] w fun e w' => e = .returned (.bool (bOf (ValidAll L))) ∧ w = w' := by
  obtain ⟨A1, c1, rfl, hc1, hm1, hA1⟩ := h.form
  unfold maxLen at hm1
  have H1 := Lib.hid hA1
  clear hA1 h
  go_enter Tryz.func27, Tryz.ntmps27
  go_wp2
  go_loop [7] (fun i => ∃ k : Nat, k ≤ L.length ∧ i = .int .i64 k ∧ Hid (∀ l ∈ L.take k, Valid l)) (fun i => L.length - (intOf i).toNat)
  case atStart => exact ⟨0, Nat.zero_le _, rfl, Lib.hid fun _ h => by cases h⟩
  case round =>
    obtain ⟨k, hk, rfl, HR⟩ := hrel
    by_cases hlt : k < L.length
    · obtain ⟨b1, o1, rfl, hb1, hcell⟩ := H1.out (by omega)
      obtain ⟨x, hx⟩ := get_some hlt
      obtain ⟨u, d1, hu⟩ := hcell k x hx
      obtain ⟨Au, cu, rfl⟩ := SI.slice_form hu
      have HX := Lib.hid hx
      have HU := Lib.hid hu
      clear hx hu hcell
      cases hv : bOf (Valid x) with
      | true =>
        have HV := Lib.hid hv
        clear hv
        go_wp2_with fail
        refine (validSet_eq _ x _ HU.out HV.out).mono ?_
        rintro e w1 ⟨rfl, rfl⟩
        go_wp2_with fail
        go_round
        case rel => exact ⟨k + 1, by omega, by go_num, Lib.hid fun l hl => by
                      rw [take_snoc HX.out] at hl
                      rcases List.mem_append.1 hl with hl | hl
                      · exact HR.out l hl
                      · simp at hl; subst hl; exact bOf_iff.1 HV.out⟩
        case measure => simp [intOf]; omega
      | false =>
        have HV := Lib.hid hv
        clear hv
        go_wp2_with fail
        refine (validSet_eq _ x _ HU.out HV.out).mono ?_
        rintro e w1 ⟨rfl, rfl⟩
        go_wp2_with fail
        go_ret
        exact ⟨ret_bool (bOf_false fun h => bOf_false_iff.1 HV.out (h x (List.mem_of_getElem? HX.out))).symm, rfl⟩
    · obtain rfl : k = L.length := by omega
      go_wp2_with fail
      go_ret
      exact ⟨ret_bool (bOf_true (by have := HR.out; rwa [List.take_length] at this)).symm, rfl⟩
theorem valid_eq (v : Value) (L : List (List Int)) (w : World) (h : SS w v L) {b : Bool} (hb : bOf (ValidAll L) = b) : Calls Tryz.prog 27 #[v] w fun e w' => e = .returned (.bool b) ∧ w = w' := by
  subst hb; exact valid_any v L w h

/-- What within knows: the first k are in b; the first p of b lie below the rest of a. -/
def WIn (a b : List Int) (k p : Nat) : Prop := (∀ x ∈ a.take k, x ∈ b) ∧ ∀ y ∈ b.take p, ∀ x ∈ a.drop k, y < x
theorem WIn.step {a b : List Int} {k p : Nat} {x y : Int} (h : WIn a b k p) (ha : Inc a) (hx : a[k]? = some x) (hy : b[p]? = some y) (hlt : y < x) : WIn a b k (p + 1) := by
  refine ⟨h.1, fun z hz t ht => ?_⟩
  rw [take_snoc hy] at hz
  rcases List.mem_append.1 hz with hz | hz
  · exact h.2 z hz t ht
  · simp at hz
    subst hz
    have hp : (a.drop k).Pairwise (· < ·) := ha.sublist (List.drop_sublist k a)
    rw [drop_cons hx] at ht hp
    rcases List.mem_cons.1 ht with rfl | ht
    · exact hlt
    · exact Int.lt_trans hlt ((List.pairwise_cons.1 hp).1 t ht)
theorem WIn.next {a b : List Int} {k p : Nat} {x : Int} (h : WIn a b k p) (hx : a[k]? = some x) (hy : b[p]? = some x) : WIn a b (k + 1) p := by
  refine ⟨fun z hz => ?_, fun z hz t ht => h.2 z hz t ?_⟩
  · rw [take_snoc hx] at hz
    rcases List.mem_append.1 hz with hz | hz
    · exact h.1 z hz
    · simp at hz; subst hz; exact List.mem_of_getElem? hy
  · rw [drop_cons hx]; exact List.mem_cons_of_mem _ ht
theorem WIn.none {a b : List Int} {k p : Nat} {x : Int} (h : WIn a b k p) (hx : a[k]? = some x) (hb : Inc b) (hp : ∀ y, b[p]? = some y → x < y) : ¬ ∀ z ∈ a, z ∈ b := by
  intro hall
  have hm := hall x (List.mem_of_getElem? hx)
  rw [← List.take_append_drop p b] at hm
  rcases List.mem_append.1 hm with hm | hm
  · have := h.2 x hm x (by rw [drop_cons hx]; simp)
    omega
  · rcases Nat.lt_or_ge p b.length with hlt | hge
    · obtain ⟨y, hy⟩ := get_some hlt
      have h1 := hp y hy
      have hs : (b.drop p).Pairwise (· < ·) := hb.sublist (List.drop_sublist p b)
      rw [drop_cons hy] at hm hs
      rcases List.mem_cons.1 hm with rfl | hm
      · omega
      · have := (List.pairwise_cons.1 hs).1 x hm; omega
    · rw [List.drop_eq_nil_of_le hge] at hm; cases hm

set_option maxHeartbeats 1000000 in
theorem within_any (v1 v2 : Value) (a b : List Int) (w : World) (h1 : SI w v1 a) (h2 : SI w v2 b) (ha : Inc a) (hb : Inc b) :
    Calls Tryz.prog 68 #[v1, v2] w fun e w' => e = .returned (.bool (bOf (∀ x ∈ a, x ∈ b))) ∧ w = w' := by
  obtain ⟨A1, c1, rfl, _, hm1, hA1⟩ := h1.form
  obtain ⟨A2, c2, rfl, _, hm2, hA2⟩ := h2.form
  have g1 := h1.len_le
  have g2 := h2.len_le
  unfold maxLen at hm1 hm2 g1 g2
  have H1 := Lib.hid hA1
  have H2 := Lib.hid hA2
  have HA := Lib.hid ha
  have HB := Lib.hid hb
  clear hA1 hA2 h1 h2 hm1 hm2 ha hb
  go_enter Tryz.func68, Tryz.ntmps68
  go_wp2
  go_loop [5, 10] (fun q i => ∃ k p : Nat, k ≤ a.length ∧ p ≤ b.length ∧ i = .int .i64 k ∧ q = .int .i64 p ∧ Hid (WIn a b k p)) (fun _ i => a.length - (intOf i).toNat)
  case atStart => exact ⟨0, 0, Nat.zero_le _, Nat.zero_le _, rfl, rfl, Lib.hid ⟨fun _ h => (by cases h), fun _ h => (by cases h)⟩⟩
  case round =>
    obtain ⟨k, p, hk, hp, rfl, rfl, HR⟩ := hrel
    by_cases hlt : k < a.length
    · obtain ⟨b1, o1, rfl, hb1, hc1⟩ := H1.out (by omega)
      obtain ⟨x, hx⟩ := get_some hlt
      have d1 := hc1 k x hx
      have HX := Lib.hid hx
      clear hc1 hx
      go_wp2_with fail
      go_loop [5] (fun q => ∃ p : Nat, p ≤ b.length ∧ q = .int .i64 p ∧ Hid (WIn a b k p)) (fun q => b.length - (intOf q).toNat)
      case atStart => exact ⟨p, hp, rfl, HR⟩
      case round =>
        clear hp HR
        obtain ⟨p, hp, rfl, HR⟩ := hrel
        by_cases hpb : p < b.length
        · obtain ⟨b2, o2, rfl, hb2, hc2⟩ := H2.out (by omega)
          obtain ⟨y, hy⟩ := get_some hpb
          have d2 := hc2 p y hy
          have HY := Lib.hid hy
          clear hc2 hy
          have e1 : ((p : Int) == (b.length : Int)) = false := beq_eq_false_iff_ne.2 (by omega)
          have e1' : (p == b.length) = false := beq_eq_false_iff_ne.2 (by omega)
          rcases Int.lt_trichotomy y x with h | h | h
          · go_wp2_with fail
            go_round
            case rel => exact ⟨p + 1, by omega, by go_num, Lib.hid (HR.out.step HA.out HX.out HY.out h)⟩
            case measure => simp [intOf]; omega
          · subst h
            have e2 : (y != y) = false := by simp
            have e3 : decide (y < y) = false := by simp
            go_wp2_with fail
            go_round
            case rel => exact ⟨k + 1, p, by omega, hp, by go_num, rfl, Lib.hid (HR.out.next HX.out HY.out)⟩
            case measure => simp [intOf]; omega
          · have e2 : (y != x) = true := by simp; omega
            have e3 : decide (y < x) = false := by simp; omega
            go_wp2_with fail
            go_ret
            exact ⟨ret_bool (bOf_false (HR.out.none HX.out HB.out (fun z hz => by rw [HY.out] at hz; injection hz with hz; omega))).symm, rfl⟩
        · obtain rfl : p = b.length := by omega
          have e1 : ((b.length : Int) == (b.length : Int)) = true := by simp
          go_wp2_with fail
          go_ret
          exact ⟨ret_bool (bOf_false (HR.out.none HX.out HB.out (fun z hz => by rw [List.getElem?_eq_none (Nat.le_refl _)] at hz; cases hz))).symm, rfl⟩
    · obtain rfl : k = a.length := by omega
      go_wp2_with fail
      go_ret
      exact ⟨ret_bool (bOf_true (by have := HR.out.1; rwa [List.take_length] at this)).symm, rfl⟩
theorem within_eq (v1 v2 : Value) (a b : List Int) (w : World) (h1 : SI w v1 a) (h2 : SI w v2 b) (ha : Inc a) (hb : Inc b) {c : Bool} (hc : bOf (∀ x ∈ a, x ∈ b) = c) :
    Calls Tryz.prog 68 #[v1, v2] w fun e w' => e = .returned (.bool c) ∧ w = w' := by
  subst hc; exact within_any v1 v2 a b w h1 h2 ha hb

/-- A proper subset. -/
def Sub (a b : List Int) : Prop := ∀ x ∈ a, x ∈ b
def PSub (a b : List Int) : Prop := a.length < b.length ∧ Sub a b
set_option maxHeartbeats 400000 in
theorem properly_any (v1 v2 : Value) (a b : List Int) (w : World) (h1 : SI w v1 a) (h2 : SI w v2 b) (ha : Inc a) (hb : Inc b) :
    Calls Tryz.prog 44 #[v1, v2] w fun e w' => e = .returned (.bool (bOf (PSub a b))) ∧ w = w' := by
  obtain ⟨A1, c1, rfl⟩ := SI.slice_form h1
  obtain ⟨A2, c2, rfl⟩ := SI.slice_form h2
  have g1 := h1.len_le
  have g2 := h2.len_le
  unfold maxLen at g1 g2
  have H1 := Lib.hid h1
  have H2 := Lib.hid h2
  have HA := Lib.hid ha
  have HB := Lib.hid hb
  clear h1 h2 ha hb
  by_cases hl : a.length < b.length
  · have HE : Hid (bOf (PSub a b) = bOf (∀ x ∈ a, x ∈ b)) := Lib.hid (bOf_congr ⟨fun h => h.2, fun h => ⟨hl, h⟩⟩)
    go_enter Tryz.func44, Tryz.ntmps44
    go_wp2_with fail
    refine (within_any _ _ a b _ H1.out H2.out HA.out HB.out).mono ?_
    rintro e w1 ⟨rfl, rfl⟩
    go_wp2_with fail
    go_ret
    exact ⟨ret_bool HE.out.symm, rfl⟩
  · have HE : Hid (bOf (PSub a b) = false) := Lib.hid (bOf_false fun h => hl h.1)
    have hd : decide (a.length < b.length) = false := by simp; omega
    go_enter Tryz.func44, Tryz.ntmps44
    go_wp2_with fail
    go_ret
    exact ⟨ret_bool HE.out.symm, rfl⟩
theorem properly_eq (v1 v2 : Value) (a b : List Int) (w : World) (h1 : SI w v1 a) (h2 : SI w v2 b) (ha : Inc a) (hb : Inc b) {c : Bool} (hc : bOf (PSub a b) = c) :
    Calls Tryz.prog 44 #[v1, v2] w fun e w' => e = .returned (.bool c) ∧ w = w' := by
  subst hc; exact properly_any v1 v2 a b w h1 h2 ha hb
end Go.Proofs.YtbmdfnifbimfmaaGreatDoor
