/- The helpers of the law IntervalPoints: in, some, separated, ends. -/
import Derived.Test.YtidaklcinddghaaC0
import Derived.Test.YtidaklcinddghaaPo
import Derived.Test.YtidaklcinddghaaAp
import Derived.Deep.RegionHeld3
import Derived.IntWalk
namespace Go.Proofs.Ytidaklcinddghaa
open Go.RowKit Go.Shelf

def inB (x : Int) (i : Int × Int) : Bool := decide (i.1 ≤ x ∧ x ≤ i.2)
theorem inB_iff {x : Int} {i : Int × Int} : inB x i = true ↔ inI x i := by unfold inB inI; simp
def someB (x : Int) (l : List (Int × Int)) : Bool := l.any (inB x)
theorem someB_iff {x : Int} {l : List (Int × Int)} : someB x l = true ↔ memL x l := by
  unfold someB memL
  rw [List.any_eq_true]
  constructor
  · rintro ⟨y, h1, h2⟩; exact ⟨y, h1, inB_iff.1 h2⟩
  · rintro ⟨y, h1, h2⟩; exact ⟨y, h1, inB_iff.2 h2⟩

set_option maxHeartbeats 400000 in
theorem in_any (x : Int) (i : Int × Int) (w : World) : Calls Try.prog 21 #[.int .i64 x, ivV i] w fun r w' => r = .returned (.bool (inB x i)) ∧ Below w.heap.size w w' := by
  have hB := (Below.refl w.heap.size w).alloc (Nat.le_refl _) (.cells #[.int .i64 i.1, .int .i64 i.2] 23)
  by_cases h1 : i.1 ≤ x
  · by_cases h2 : x ≤ i.2
    · have HB : Hid (inB x i = true) := Lib.hid (by unfold inB; simp [h1, h2])
      go_enter Try.func21, Try.ntmps21
      go_wp2
      go_ret
      exact ⟨ret_bool (by rw [HB.out]), hB⟩
    · have HB : Hid (inB x i = false) := Lib.hid (by unfold inB; simp [h2])
      have hd : decide (x ≤ i.2) = false := by simp; omega
      go_enter Try.func21, Try.ntmps21
      go_wp2
      go_ret
      exact ⟨ret_bool (by rw [HB.out]), hB⟩
  · have HB : Hid (inB x i = false) := Lib.hid (by unfold inB; simp [h1])
    have hd : decide (i.1 ≤ x) = false := by simp; omega
    go_enter Try.func21, Try.ntmps21
    go_wp2
    go_ret
    exact ⟨ret_bool (by rw [HB.out]), hB⟩
theorem in_eq (x : Int) (i : Int × Int) (w : World) {b : Bool} (h : inB x i = b) : Calls Try.prog 21 #[.int .i64 x, ivV i] w fun r w' => r = .returned (.bool b) ∧ Below w.heap.size w w' := by
  subst h; exact in_any x i w

set_option maxHeartbeats 1000000 in
theorem some_any (x : Int) (v : Value) (l : List (Int × Int)) (w : World) (h : SlIv w v l) : Calls Try.prog 20 #[.int .i64 x, v] w fun r w' => r = .returned (.bool (someB x l)) ∧ Below w.heap.size w w' := by
  obtain ⟨A, c, rfl, hc, hm, hA⟩ := h
  unfold maxLen at hm
  have HA := Lib.hid hA
  clear hA
  go_enter Try.func20, Try.ntmps20
  go_wp2
  go_loopw [5] (fun i wr => ∃ k : Nat, k ≤ l.length ∧ i = .int .i64 k ∧ Hid ((l.take k).any (inB x) = false) ∧ Below w.heap.size w wr) (fun i _ => l.length - (intOf i).toNat)
  case atStart => exact ⟨0, Nat.zero_le _, rfl, Lib.hid rfl, Below.refl _ _⟩
  case round =>
    obtain ⟨k, hk, rfl, HN, hB⟩ := hrel
    by_cases hlt : k < l.length
    · obtain ⟨b, off, rfl, hb, hcell⟩ := HA.out (by omega)
      obtain ⟨y, hx⟩ : ∃ y, l[k]? = some y := ⟨l[k], by simp [hlt]⟩
      have c0 : wr.cell? ⟨b, off + k * 2, none⟩ = some (.int .i64 y.1) := (hB.cell hb).trans (hcell k y hx 0 _ rfl)
      have c1 : wr.cell? ⟨b, off + k * 2 + 1, none⟩ = some (.int .i64 y.2) := (hB.cell hb).trans (hcell k y hx 1 _ rfl)
      have HX := Lib.hid hx
      clear hcell hx
      cases hi : inB x y with
      | true =>
        have HI := Lib.hid hi
        clear hi
        go_wp2_with fail
        refine (in_eq x y _ HI.out).mono ?_
        rintro e w1 ⟨rfl, hB1⟩
        go_wp2_with fail
        go_ret
        exact ⟨ret_bool (by unfold someB; exact (List.any_eq_true.2 ⟨y, List.mem_of_getElem? HX.out, HI.out⟩).symm), bAfter hB hB1⟩
      | false =>
        have HI := Lib.hid hi
        clear hi
        go_wp2_with fail
        refine (in_eq x y _ HI.out).mono ?_
        rintro e w1 ⟨rfl, hB1⟩
        go_wp2_with fail
        go_roundw
        case rel => exact ⟨k + 1, by omega, by go_num, Lib.hid (by rw [List.take_add_one, HX.out, List.any_append, HN.out]; simp [HI.out]), bAfter hB hB1⟩
        case measure => simp [intOf]; omega
    · go_wp2
      go_ret
      exact ⟨ret_bool (by unfold someB; have := HN.out; rw [List.take_of_length_le (by omega)] at this; exact this.symm), hB⟩
theorem some_eq (x : Int) (v : Value) (l : List (Int × Int)) (w : World) (h : SlIv w v l) {b : Bool} (hb : someB x l = b) : Calls Try.prog 20 #[.int .i64 x, v] w fun r w' => r = .returned (.bool b) ∧ Below w.heap.size w w' := by
  subst hb; exact some_any x v l w h

theorem sep_next {u : List (Int × Int)} (hs : Sep u) {k : Nat} {x y : Int × Int} (hx : u[k]? = some x) (hy : u[k + 1]? = some y) : x.2 + 1 < y.1 := by
  obtain ⟨h1, rfl⟩ := List.getElem?_eq_some_iff.1 hx
  obtain ⟨h2, rfl⟩ := List.getElem?_eq_some_iff.1 hy
  exact List.pairwise_iff_getElem.1 hs.2 k (k + 1) h1 h2 (by omega)

set_option maxRecDepth 100000 in
set_option maxHeartbeats 2000000 in
theorem separated_any (v : Value) (l : List (Int × Int)) (w : World) (h : SlIv w v l) (hs : Sep l) (ho : ∀ x ∈ l, Ok x) : Calls Try.prog 22 #[v] w fun r w' => r = .returned (.bool true) ∧ Below w.heap.size w w' := by
  obtain ⟨A, c, rfl, hc, hm, hA⟩ := h
  unfold maxLen at hm
  have HA := Lib.hid hA
  have HS := Lib.hid hs
  have HO := Lib.hid ho
  clear hA hs ho
  go_enter Try.func22, Try.ntmps22
  go_wp2
  go_loopw [3] (fun i wr => ∃ k : Nat, k ≤ l.length ∧ i = .int .i64 k ∧ Below w.heap.size w wr) (fun i _ => l.length - (intOf i).toNat)
  case atStart => exact ⟨0, Nat.zero_le _, rfl, Below.refl _ _⟩
  case round =>
    obtain ⟨k, hk, rfl, hB⟩ := hrel
    by_cases hlt : k < l.length
    · obtain ⟨b, off, rfl, hb, hcell⟩ := HA.out (by omega)
      obtain ⟨y, hx⟩ : ∃ y, l[k]? = some y := ⟨l[k], by simp [hlt]⟩
      have c0 : wr.cell? ⟨b, off + k * 2, none⟩ = some (.int .i64 y.1) := (hB.cell hb).trans (hcell k y hx 0 _ rfl)
      have c1 : wr.cell? ⟨b, off + k * 2 + 1, none⟩ = some (.int .i64 y.2) := (hB.cell hb).trans (hcell k y hx 1 _ rfl)
      have q0 := later_old c0
      have q1 := later_old c1
      have oy := HO.out y (List.mem_of_getElem? hx)
      have hck := chk_of_ok oy
      have HCK := Lib.hid hck
      unfold Ok at oy
      have g1 : (0 : Int) ≤ (k : Int) := by omega
      have g2 : (k : Int) < (l.length : Int) := by omega
      clear hck
      by_cases hk0 : k = 0
      · have d0 : decide ((0 : Int) < (k : Int)) = false := by simp [hk0]
        have d0' : decide (0 < k) = false := by simp [hk0]
        clear hk0
        clear hcell hx c0 c1
        go_wp2_with fail
        refine wp_region_later (by kernel_rfl) (by kernel_rfl) ?_
        repeat (first | go_big_quiet_step (with_reducible exact later_of (check_eq _ _ HCK.out)) | quiet_step (with_reducible exact later_of (check_eq _ _ HCK.out)))
        refine wpQuiet_nil ?_
        rintro _ ⟨s, rfl⟩
        have hB1 := s.below
        generalize s.at = w1 at *
        go_wp2_with fail
        go_roundw
        case rel => exact ⟨k + 1, by omega, by go_num, bAfter hB hB1⟩
        case measure => simp [intOf]; omega
      · obtain ⟨j, rfl⟩ : ∃ j, k = j + 1 := ⟨k - 1, by omega⟩
        obtain ⟨z, hz⟩ : ∃ z, l[j]? = some z := ⟨l[j]'(by omega), List.getElem?_eq_getElem (by omega)⟩
        have e1 : wr.cell? ⟨b, off + j * 2 + 1, none⟩ = some (.int .i64 z.2) := (hB.cell hb).trans (hcell j z hz 1 _ rfl)
        have q2 := later_old e1
        have oz := HO.out z (List.mem_of_getElem? hz)
        unfold Ok at oz
        have hsep := sep_next HS.out hz hx
        have d0 : decide ((0 : Int) < ((j + 1 : Nat) : Int)) = true := by simp
        have d1 : decide (y.1 ≤ z.2 + 1) = false := by simp; omega
        have wz : IntKind.i64.wrap (z.2 + 1) = z.2 + 1 := IntWalk.i64_in _ (by omega)
        have wk : IntKind.i64.wrap (((j + 1 : Nat) : Int) - 1) = (j : Int) := by rw [IntWalk.i64_in _ (by omega)]; omega
        have g3 : (0 : Int) ≤ (j : Int) := by omega
        have g4 : (j : Int) < (l.length : Int) := by omega
        clear hcell hx c0 c1 e1 hz
        go_wp2_with fail
        refine wp_region_later (by kernel_rfl) (by kernel_rfl) ?_
        repeat (first | go_big_quiet_step (with_reducible exact later_of (check_eq _ _ HCK.out)) | quiet_step (with_reducible exact later_of (check_eq _ _ HCK.out)))
        refine wpQuiet_nil ?_
        rintro _ ⟨s, rfl⟩
        have hB1 := s.below
        generalize s.at = w1 at *
        clear wz wk
        go_wp2_with fail
        go_roundw
        case rel => exact ⟨j + 1 + 1, by omega, by go_num, bAfter hB hB1⟩
        case measure => simp [intOf]; omega
    · go_wp2
      go_ret
      exact ⟨rfl, hB⟩
end Go.Proofs.Ytidaklcinddghaa
