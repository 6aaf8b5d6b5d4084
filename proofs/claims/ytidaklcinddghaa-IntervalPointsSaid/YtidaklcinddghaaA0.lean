import Derived.WalkKit
import Derived.Deep.QuietTactic
import Derived.BigQuiet
import Derived.Test.YtidaklcinddghaaProg
import Derived.Test.YtidaklcinddghaaMem
import Derived.Test.YtidaklcinddghaaPm
namespace Go.Proofs.Ytidaklcinddghaa
open Go.RowKit

def encIv (x : Int × Int) : List Value := [.int .i64 x.1, .int .i64 x.2]
abbrev ivV (x : Int × Int) : Value := .agg #[.int .i64 x.1, .int .i64 x.2]
abbrev SlIv (w : World) (v : Value) (l : List (Int × Int)) : Prop := Sl w w.heap.size encIv 2 v l

theorem chk_one {lo hi : Int} (h : lo < -1099511627776 ∨ hi < -1099511627776 ∨ 1099511627776 < lo ∨ 1099511627776 < hi) : 1 = chk (lo, hi) := (if_pos h).symm
theorem chk_eighty {lo hi : Int} (h : ¬ (lo < -1099511627776 ∨ hi < -1099511627776 ∨ 1099511627776 < lo ∨ 1099511627776 < hi)) (h2 : hi < lo) : 80 = chk (lo, hi) := by
  unfold chk; rw [if_neg h, if_pos h2]
theorem chk_zero {lo hi : Int} (h : ¬ (lo < -1099511627776 ∨ hi < -1099511627776 ∨ 1099511627776 < lo ∨ 1099511627776 < hi)) (h2 : ¬ hi < lo) : 0 = chk (lo, hi) := by
  unfold chk; rw [if_neg h, if_neg h2]

set_option maxHeartbeats 400000 in
theorem check_any (x : Int × Int) (w : World) :
    Calls Try.prog 18 #[ivV x] w fun e w' => e = .returned (.int .i64 (chk x)) ∧ Below w.heap.size w w' := by
  obtain ⟨lo, hi⟩ := x
  by_cases h1 : lo < hi
  all_goals by_cases h2 : hi < lo
  all_goals by_cases h3 : lo < -1099511627776 ∨ hi < -1099511627776
  all_goals by_cases h4 : 1099511627776 < lo ∨ 1099511627776 < hi
  all_goals first
    | (exfalso; omega)
    | (go_enter Try.func18, Try.ntmps18
       go_wp2
       all_goals
         go_ret
         refine ⟨ret_int ?_, (Below.refl _ _).alloc (Nat.le_refl _) _⟩
         first
           | exact chk_one (by omega)
           | exact chk_eighty (by omega) (by omega)
           | exact chk_zero (by omega) (by omega)
           | (exfalso; omega))

theorem chkAll1_any (e : Int) (x : Int × Int) (w : World) :
    Calls Try.prog 41 #[.int .i64 e, ivV x] w fun r w' => r = .returned (.int .i64 (chkStep e x)) ∧ Below w.heap.size w w' := by
  obtain ⟨lo, hi⟩ := x
  by_cases h : e = 0
  · have hb : (e != 0) = false := by simp [h]
    have hs : chkStep e (lo, hi) = chk (lo, hi) := if_pos h
    have HS := Lib.hid hs
    clear h hs
    go_enter Try.func41, Try.ntmps41
    go_wp2_with (go_at_call 18; refine (check_any (lo, hi) _).mono ?_; rintro e w' ⟨rfl, hb1⟩)
    go_ret
    exact ⟨ret_int HS.out.symm, ((Below.refl _ _).alloc (Nat.le_refl _) _).trans (hb1.mono (by simp))⟩
  · have hb : (e != 0) = true := by simp [h]
    have HS := Lib.hid (show chkStep e (lo, hi) = e from if_neg h)
    clear h
    go_enter Try.func41, Try.ntmps41
    go_wp2
    go_ret
    exact ⟨ret_int HS.out.symm, ((Below.refl _ _).alloc (Nat.le_refl _) _)⟩

theorem chkAll_take_succ (l : List (Int × Int)) (k : Nat) (x : Int × Int) (h : l[k]? = some x) : (l.take (k+1)).foldl chkStep 0 = chkStep ((l.take k).foldl chkStep 0) x := by
  obtain ⟨hk, rfl⟩ := List.getElem?_eq_some_iff.1 h
  rw [List.take_succ_eq_append_getElem hk, List.foldl_append]
  rfl

set_option maxHeartbeats 400000 in
theorem reduce_any (v : Value) (l : List (Int × Int)) (w : World) (h : SlIv w v l) :
    Calls Try.prog 40 #[v, .int .i64 0, .func (.func 41) #[] #[]] w fun r w' => r = .returned (.int .i64 (chkAll l)) ∧ Below w.heap.size w w' := by
  obtain ⟨A, c, rfl, hc, hm, hA⟩ := h
  unfold maxLen at hm
  have HA := Lib.hid hA
  clear hA
  go_enter Try.func40, Try.ntmps40
  go_wp2
  go_loopw [1, 11] (fun s i wr => ∃ k : Nat, k ≤ l.length ∧ i = .int .i64 k ∧ s = .int .i64 ((l.take k).foldl chkStep 0) ∧ Below w.heap.size w wr) (fun _ i _ => l.length - (intOf i).toNat)
  case atStart => exact ⟨0, Nat.zero_le _, rfl, rfl, Below.refl _ _⟩
  case round =>
    obtain ⟨k, hk, rfl, rfl, hB⟩ := hrel
    by_cases hlt : k < l.length
    · obtain ⟨b, off, rfl, hb, hcell⟩ := HA.out (by omega)
      obtain ⟨x, hx⟩ : ∃ x, l[k]? = some x := ⟨l[k], by simp [hlt]⟩
      have c0 : wr.cell? ⟨b, off + k * 2, none⟩ = some (.int .i64 x.1) := (hB.cell hb).trans (hcell k x hx 0 _ rfl)
      have c1 : wr.cell? ⟨b, off + k * 2 + 1, none⟩ = some (.int .i64 x.2) := (hB.cell hb).trans (hcell k x hx 1 _ rfl)
      have HS := Lib.hid (chkAll_take_succ l k x hx)
      clear hcell hx
      go_wp2_with (go_at_call 41; refine (chkAll1_any _ x _).mono ?_; rintro e w' ⟨rfl, hb1⟩)
      have hB1 : Below w.heap.size w w' := (hB.alloc hB.size _).trans (hb1.mono (by have := hB.size; simp; omega))
      go_roundw
      case rel => exact ⟨k + 1, by omega, by go_num, by rw [HS.out], hB1⟩
      case measure => simp [intOf]; omega
    · go_wp2
      go_ret
      exact ⟨ret_int (by rw [List.take_of_length_le (by omega)]; rfl), hB⟩

theorem checkAll_any (v : Value) (l : List (Int × Int)) (w : World) (h : SlIv w v l) :
    Calls Try.prog 30 #[v] w fun r w' => r = .returned (.int .i64 (chkAll l)) ∧ Below w.heap.size w w' := by
  have H := Lib.hid h
  clear h
  go_enter Try.func30, Try.ntmps30
  go_wp2_with (go_at_call 40; refine (reduce_any _ l _ H.out).mono ?_; rintro e w' ⟨rfl, hb1⟩)
  go_ret
  exact ⟨rfl, hb1⟩
end Go.Proofs.Ytidaklcinddghaa
