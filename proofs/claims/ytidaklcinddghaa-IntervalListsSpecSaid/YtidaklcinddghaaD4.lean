/- The reference's Inside. -/
import Derived.Test.YtidaklcinddghaaD3
import Derived.Test.YtidaklcinddghaaPo
namespace Go.Proofs.Ytidaklcinddghaa
open Go.RowKit Go.Shelf

theorem insideR_len {i : Int × Int} {l : List (Int × Int)} (h : bothE i l = 0) : insideR i l = decide ((withoutR i l).length = 0) := by
  obtain ⟨h1, h2⟩ := bothE_zero h
  have := without_empty (ok_of_chk h1) (ok_of_chkAll h2)
  rw [show insideR i l = (unionC l).any (withinB i) from if_pos h, show withoutR i l = woL i.2 i.1 (unionC l) from if_pos h]
  rw [Bool.eq_iff_iff, ← this]
  simp

set_option maxHeartbeats 1000000 in
theorem rInside_any (i : Int × Int) (v : Value) (l : List (Int × Int)) (w : World) (h : SlIv w v l) (hlen : l.length ≤ 1000000) :
    Calls Try.prog 14 #[ivV i, v] w fun e w' => e = .returned (.tuple #[.bool (insideR i l), .int .i64 (bothE i l)]) ∧ Below w.heap.size w w' := by
  have H := Lib.hid h
  clear h
  obtain ⟨k, hk⟩ : ∃ k, bothE i l = k := ⟨_, rfl⟩
  have HK := Lib.hid hk
  by_cases hk0 : k = 0
  · subst hk0
    have HI := Lib.hid (insideR_len hk)
    clear hk
    go_enter Try.func14, Try.ntmps14
    go_wp2_with fail
    refine (rWithout_any i _ l _ (by exact slAl H.out _) hlen).mono ?_
    rintro e w1 ⟨v1, rfl, hr1, hB1⟩
    rw [HK.out]
    obtain ⟨A1, c1, rfl, _, hm1, _⟩ := own_sl hr1 (Nat.le_refl _)
    have hBa := bAfter (bAl (Below.refl _ w) _) hB1
    clear hr1 hB1
    obtain ⟨n, hN⟩ : ∃ n, (withoutR i l).length = n := ⟨_, rfl⟩
    have HN := Lib.hid hN
    rw [hN]
    clear hN
    by_cases hn : n = 0
    · subst hn
      go_wp2_with fail
      go_ret2
      exact ⟨by rw [HI.out, HK.out, HN.out]; rfl, hBa⟩
    · have hd2 : ((n : Int) == 0) = false := beq_eq_false_iff_ne.2 (by omega)
      have HD : Hid (decide (n = 0) = false) := Lib.hid (by simp [hn])
      go_wp2_with fail
      go_ret2
      exact ⟨by rw [HI.out, HK.out, HN.out, HD.out]; rfl, hBa⟩
  · have hk1 : (k == 0) = false := beq_eq_false_iff_ne.2 hk0
    have HI : Hid (insideR i l = false) := Lib.hid (if_neg (by rw [hk]; exact hk0))
    clear hk
    go_enter Try.func14, Try.ntmps14
    go_wp2_with fail
    refine (rWithout_any i _ l _ (by exact slAl H.out _) hlen).mono ?_
    rintro e w1 ⟨v1, rfl, hr1, hB1⟩
    rw [HK.out]
    have hBa := bAfter (bAl (Below.refl _ w) _) hB1
    clear hr1 hB1
    go_wp2_with fail
    go_ret2
    exact ⟨by rw [HI.out, HK.out]; rfl, hBa⟩
end Go.Proofs.Ytidaklcinddghaa
