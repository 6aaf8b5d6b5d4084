import Derived.Laws.EntriesVeiled
import Derived.Deep.RegionHeld3
import Derived.Deep.DeepCutAuto
import Derived.Deep.DrawnRows
import Derived.Test.YtidaklcinddghaaA0
namespace Go.Proofs.Ytidaklcinddghaa
open Go.RowKit
attribute [local go_sem ↓] Go.wp_at_zero Go.wp_at_succ

theorem greater1_any (a b : Int) (w : World) : Calls Try.prog 48 #[.int .i64 a, .int .i64 b] w fun r w' => r = .returned (.bool (decide (b < a))) ∧ w = w' := by
  go_enter Try.func48, Try.ntmps48
  go_wp2
  go_ret
  exact ⟨rfl, rfl⟩
theorem lesser1_any (a b : Int) (w : World) : Calls Try.prog 49 #[.int .i64 a, .int .i64 b] w fun r w' => r = .returned (.bool (decide (a < b))) ∧ w = w' := by
  go_enter Try.func49, Try.ntmps49
  go_wp2
  go_ret
  exact ⟨rfl, rfl⟩

theorem greater_any (w : World) : Calls Try.prog 37 #[] w fun r w' => r = .returned (.agg #[.func (.func 48) #[] #[]]) ∧ Below w.heap.size w w' := by
  go_enter Try.func37, Try.ntmps37
  go_wp2
  exact bodyPost_ret (v := .agg #[.func (.func 48) #[] #[]]) (by simp [results, Try.results37, go_sem]) rfl ⟨rfl, (Below.refl _ _).alloc (Nat.le_refl _) _⟩
theorem lesser_any (w : World) : Calls Try.prog 39 #[] w fun r w' => r = .returned (.agg #[.func (.func 49) #[] #[]]) ∧ Below w.heap.size w w' := by
  go_enter Try.func39, Try.ntmps39
  go_wp2
  exact bodyPost_ret (v := .agg #[.func (.func 49) #[] #[]]) (by simp [results, Try.results39, go_sem]) rfl ⟨rfl, (Below.refl _ _).alloc (Nat.le_refl _) _⟩
theorem of_greater (a b : Int) (w : World) : Calls Try.prog 38 #[.agg #[.func (.func 48) #[] #[]], .int .i64 a, .int .i64 b] w fun r w' => r = .returned (.int .i64 (max a b)) ∧ Below w.heap.size w w' := by
  go_enter Try.func38, Try.ntmps38
  go_wp2_with (go_at_call 48; refine (greater1_any _ _ _).mono ?_; rintro e w' ⟨rfl, rfl⟩)
  all_goals
    go_ret
    exact ⟨ret_int (by omega), (Below.refl _ _).alloc (Nat.le_refl _) _⟩
theorem of_lesser (a b : Int) (w : World) : Calls Try.prog 38 #[.agg #[.func (.func 49) #[] #[]], .int .i64 a, .int .i64 b] w fun r w' => r = .returned (.int .i64 (min a b)) ∧ Below w.heap.size w w' := by
  go_enter Try.func38, Try.ntmps38
  go_wp2_with (go_at_call 49; refine (lesser1_any _ _ _).mono ?_; rintro e w' ⟨rfl, rfl⟩)
  all_goals
    go_ret
    exact ⟨ret_int (by omega), (Below.refl _ _).alloc (Nat.le_refl _) _⟩
end Go.Proofs.Ytidaklcinddghaa
