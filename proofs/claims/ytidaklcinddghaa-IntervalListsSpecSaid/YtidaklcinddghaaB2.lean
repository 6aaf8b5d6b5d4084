import Derived.Test.YtidaklcinddghaaB1
import Derived.Test.YtidaklcinddghaaLt
namespace Go.Proofs.Ytidaklcinddghaa
open Go.RowKit Go.Shelf

set_option maxHeartbeats 1000000 in
theorem rCheck_any (x : Int × Int) (w : World) :
    Calls Try.prog 28 #[ivV x] w fun e w' => e = .returned (.int .i64 (chk x)) ∧ Below w.heap.size w w' := by
  obtain ⟨lo, hi⟩ := x
  by_cases h1 : lo < -1099511627776
  · go_enter Try.func28, Try.ntmps28
    go_wp2
    go_ret
    exact ⟨ret_int (chk_one (by omega)), (Below.refl _ _).alloc (Nat.le_refl _) _⟩
  · by_cases h2 : 1099511627776 < lo
    · go_enter Try.func28, Try.ntmps28
      go_wp2
      go_ret
      exact ⟨ret_int (chk_one (by omega)), (Below.refl _ _).alloc (Nat.le_refl _) _⟩
    · by_cases h3 : hi < -1099511627776
      · go_enter Try.func28, Try.ntmps28
        go_wp2
        go_ret
        exact ⟨ret_int (chk_one (by omega)), (Below.refl _ _).alloc (Nat.le_refl _) _⟩
      · by_cases h4 : 1099511627776 < hi
        · go_enter Try.func28, Try.ntmps28
          go_wp2
          go_ret
          exact ⟨ret_int (chk_one (by omega)), (Below.refl _ _).alloc (Nat.le_refl _) _⟩
        · by_cases h5 : hi < lo
          · go_enter Try.func28, Try.ntmps28
            go_wp2
            go_ret
            exact ⟨ret_int (chk_eighty (by omega) (by omega)), (Below.refl _ _).alloc (Nat.le_refl _) _⟩
          · go_enter Try.func28, Try.ntmps28
            go_wp2
            go_ret
            exact ⟨ret_int (chk_zero (by omega) (by omega)), (Below.refl _ _).alloc (Nat.le_refl _) _⟩
theorem rCheck_eq (x : Int × Int) (w : World) {k : Int} (h : chk x = k) : Calls Try.prog 28 #[ivV x] w fun r w' => r = .returned (.int .i64 k) ∧ Below w.heap.size w w' := by
  rw [← h]; exact rCheck_any x w

theorem chkAll_hit {l : List (Int × Int)} {k : Nat} {x : Int × Int} (h0 : (l.take k).foldl chkStep 0 = 0) (hx : l[k]? = some x) (hc : chk x ≠ 0) : chkAll l = chk x := by
  have h1 := chkAll_take_succ l k x hx
  rw [h0, chkStep, if_pos rfl] at h1
  unfold chkAll
  rw [← List.take_append_drop (k + 1) l, List.foldl_append, h1, fold_ne _ hc]

set_option maxHeartbeats 1000000 in
theorem rAll_any (v : Value) (l : List (Int × Int)) (w : World) (h : SlIv w v l) :
    Calls Try.prog 33 #[v] w fun r w' => r = .returned (.int .i64 (chkAll l)) ∧ Below w.heap.size w w' := by
  obtain ⟨A, c, rfl, hc, hm, hA⟩ := h
  unfold maxLen at hm
  have HA := Lib.hid hA
  clear hA
  go_enter Try.func33, Try.ntmps33
  go_wp2
  go_loopw [3] (fun i wr => ∃ k : Nat, k ≤ l.length ∧ i = .int .i64 k ∧ (l.take k).foldl chkStep 0 = 0 ∧ Below w.heap.size w wr) (fun i _ => l.length - (intOf i).toNat)
  case atStart => exact ⟨0, Nat.zero_le _, rfl, rfl, Below.refl _ _⟩
  case round =>
    obtain ⟨k, hk, rfl, hz, hB⟩ := hrel
    have HZ := Lib.hid hz
    clear hz
    by_cases hlt : k < l.length
    · obtain ⟨b, off, rfl, hb, hcell⟩ := HA.out (by omega)
      obtain ⟨x, hx⟩ : ∃ x, l[k]? = some x := ⟨l[k], by simp [hlt]⟩
      have c0 : wr.cell? ⟨b, off + k * 2, none⟩ = some (.int .i64 x.1) := (hB.cell hb).trans (hcell k x hx 0 _ rfl)
      have c1 : wr.cell? ⟨b, off + k * 2 + 1, none⟩ = some (.int .i64 x.2) := (hB.cell hb).trans (hcell k x hx 1 _ rfl)
      have HX := Lib.hid hx
      clear hcell hx
      by_cases hk0 : chk x = 0
      · have HK := Lib.hid hk0
        clear hk0
        go_wp2_with fail
        refine (rCheck_eq x _ HK.out).mono ?_
        rintro e w1 ⟨rfl, hB1⟩
        have hBa := bAfter hB hB1
        clear hB1 c0 c1
        go_wp2_with fail
        go_roundw
        case rel => exact ⟨k + 1, by omega, by go_num, by rw [chkAll_take_succ l k x HX.out, HZ.out, chkStep, if_pos rfl, HK.out], hBa⟩
        case measure => simp [intOf]; omega
      · obtain ⟨q, hq⟩ : ∃ q, chk x = q := ⟨_, rfl⟩
        have nq : (q != 0) = true := neq_int_true (by rw [← hq]; exact hk0)
        have HQ := Lib.hid hq
        have HK := Lib.hid hk0
        clear hk0 hq
        go_wp2_with fail
        refine (rCheck_eq x _ HQ.out).mono ?_
        rintro e w1 ⟨rfl, hB1⟩
        have hBa := bAfter hB hB1
        clear hB1 c0 c1
        go_wp2_with fail
        go_ret
        exact ⟨ret_int (by rw [chkAll_hit HZ.out HX.out HK.out, HQ.out]), hBa⟩
    · go_wp2_with fail
      go_ret
      exact ⟨ret_int (by rw [← HZ.out, List.take_of_length_le (by omega)]; rfl), hB⟩
end Go.Proofs.Ytidaklcinddghaa
