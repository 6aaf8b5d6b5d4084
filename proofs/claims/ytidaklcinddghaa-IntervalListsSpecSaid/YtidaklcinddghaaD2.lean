/- The reference's both. -/
import Derived.Test.YtidaklcinddghaaD1
namespace Go.Proofs.Ytidaklcinddghaa
open Go.RowKit Go.Shelf

set_option maxHeartbeats 1000000 in
theorem rBoth_any (i : Int × Int) (v : Value) (l : List (Int × Int)) (w : World) (h : SlIv w v l) :
    Calls Try.prog 36 #[ivV i, v] w fun e w' => e = .returned (.int .i64 (bothE i l)) ∧ Below w.heap.size w w' := by
  have H := Lib.hid h
  clear h
  obtain ⟨k, hk⟩ : ∃ k, chk i = k := ⟨_, rfl⟩
  have HK := Lib.hid hk
  by_cases hk0 : k = 0
  · subst hk0
    clear hk
    go_enter Try.func36, Try.ntmps36
    go_wp2_with fail
    refine (rCheck_eq i _ HK.out).mono ?_
    rintro e w1 ⟨rfl, hB1⟩
    have H1 := Lib.hid (slUp hB1 (slAl H.out _))
    have hBa := bAfter (bAl (Below.refl _ w) _) hB1
    go_wp2_with fail
    refine (rAll_any _ l _ H1.out).mono ?_
    rintro e w2 ⟨rfl, hB2⟩
    go_wp2_with fail
    go_ret
    exact ⟨ret_int (by unfold bothE; rw [if_pos HK.out]), bAfter hBa hB2⟩
  · have hk1 := neq_int_true hk0
    clear hk
    go_enter Try.func36, Try.ntmps36
    go_wp2_with fail
    refine (rCheck_eq i _ HK.out).mono ?_
    rintro e w1 ⟨rfl, hB1⟩
    have hBa := bAfter (bAl (Below.refl _ w) _) hB1
    go_wp2_with fail
    go_ret
    exact ⟨ret_int (by unfold bothE; rw [if_neg (by rw [HK.out]; exact hk0), HK.out]), hBa⟩
end Go.Proofs.Ytidaklcinddghaa
