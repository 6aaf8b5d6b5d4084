/- HittingMinimalSpec: the walk. -/
import Derived.Test.YtbmdfnifbimfmaaGreatDoorLt
namespace Go.Proofs.YtbmdfnifbimfmaaGreatDoor
open Go.RowKit Go.Shelf

set_option maxRecDepth 100000 in
set_option maxHeartbeats 4000000 in
theorem minSpec_any (v0 : Value) (L : List (List Int)) (v1 : Value) (s : List Int) (W : World) (h0 : SS W v0 L) (hw0 : wfS L) (h1 : SI W v1 s) (hw1 : ∀ x ∈ s, wfI x) (hT : Tab W) :
    Calls Tryz.prog 3 #[v0, v1] W fun e W' => e = .returned (.bool true) ∧ Below W.heap.size W W' := by
  obtain ⟨A0, c0, rfl, _⟩ := h0.form
  obtain ⟨A1, c1, rfl⟩ := SI.slice_form h1
  have hsl := h1.len_le
  unfold maxLen at hsl
  have H0 := Lib.hid h0
  have HW0 := Lib.hid hw0
  have H1 := Lib.hid h1
  have HW1 := Lib.hid hw1
  have HT := Lib.hid hT
  clear h0 hw0 h1 hw1 hT
  go_enter Tryz.func3, Tryz.ntmps3
  go_wp2_with fail
  refine (sane_any W HT.out).mono ?_
  rintro e w1 ⟨rfl, hB1⟩
  go_wp2_with fail
  cases hf : bOf (Few L 30) with
  | false =>
    refine (rFew_eq _ L 30 _ (H0.out.up hB1) (by decide) hf).mono ?_
    rintro e w2 ⟨rfl, rfl⟩
    clear hf
    go_wp2_with fail
    go_ret
    exact ⟨rfl, hB1⟩
  | true =>
    have HF := Lib.hid (bOf_iff.1 hf)
    refine (rFew_eq _ L 30 _ (H0.out.up hB1) (by decide) hf).mono ?_
    rintro e w2 ⟨rfl, rfl⟩
    clear hf
    by_cases h30 : 30 < s.length
    · have q : decide ((30 : Int) < (s.length : Int)) = true := by simp; omega
      go_wp2_with fail
      go_ret
      exact ⟨rfl, hB1⟩
    · have q : decide ((30 : Int) < (s.length : Int)) = false := by simp; omega
      have hl30 : L.length ≤ 30 := HF.out.1
      have HLL : Hid (∀ l ∈ L, l.length ≤ 1000000) := Lib.hid fun l hl => Nat.le_trans (HF.out.2 l hl) (by decide)
      go_wp2_with fail
      refine (Minimal_c _ L _ (H0.out.up hB1) (by omega) HLL.out (HT.out.up hB1)).mono ?_
      rintro e w2 ⟨v2, M, c, rfl, hs2, hm2, _, hB2⟩
      have HS2 := Lib.hid hs2
      have HM2 := Lib.hid hm2
      have HBa := Lib.hid (bAfter hB1 hB2)
      clear hs2 hm2 hB2
      go_wp2_with fail
      refine (rMinimal_c _ L _ (H0.out.up HBa.out) (by omega) HLL.out).mono ?_
      rintro e w3 ⟨v3, M3, c3, rfl, hs3, hm3, _, hB3⟩
      obtain ⟨e1, e2⟩ := minOk_same HM2.out hm3
      subst e1 e2
      have HS2' := Lib.hid (HS2.out.up hB3)
      have HS3 := Lib.hid hs3
      have HBb := Lib.hid (bAfter HBa.out hB3)
      clear hs3 hm3 hB3 HS2
      go_wp2_with fail
      refine (rSameAll_eq _ _ M M _ HS2'.out HS3.out (bOf_true rfl)).mono ?_
      rintro e w4 ⟨rfl, hB4⟩
      have HBc := Lib.hid (bAfter HBb.out hB4)
      clear hB4
      obtain ⟨b, hb⟩ : ∃ b, bOf (∀ l ∈ L, Meet s l) = b := ⟨_, rfl⟩
      have HB := Lib.hid hb
      clear hb
      go_wp2_with fail
      refine (Hits_eq _ _ L s _ (H0.out.up HBc.out) (S1.up H1.out HBc.out) HW0.out HW1.out (by omega) HB.out).mono ?_
      rintro e w5 ⟨rfl, hB5⟩
      have HBd := Lib.hid (bAfter HBc.out hB5)
      clear hB5
      go_wp2_with fail
      refine ((rHits_any _ _ L s _ (H0.out.up HBd.out) (S1.up H1.out HBd.out)).mono (R' := fun e w' => e = .returned (.bool b) ∧ w5 = w') (fun e w' ⟨he, hw⟩ => ⟨by rw [he, HB.out], hw⟩)).mono ?_
      rintro e w6 ⟨rfl, rfl⟩
      have q2 : (b == b) = true := by simp
      go_wp2_with fail
      go_ret
      exact ⟨rfl, HBd.out⟩
end Go.Proofs.YtbmdfnifbimfmaaGreatDoor
