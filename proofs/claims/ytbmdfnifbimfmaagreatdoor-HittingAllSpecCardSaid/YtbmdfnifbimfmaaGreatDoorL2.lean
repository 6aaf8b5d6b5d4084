/- HittingAllSpec: the walk. -/
import Derived.Test.YtbmdfnifbimfmaaGreatDoorLt
import Derived.Test.YtbmdfnifbimfmaaGreatDoorR8
import Derived.Test.YtbmdfnifbimfmaaGreatDoorRT
namespace Go.Proofs.YtbmdfnifbimfmaaGreatDoor
open Go.RowKit Go.Shelf

set_option maxRecDepth 100000 in
set_option maxHeartbeats 4000000 in
theorem allSpec_any (v0 : Value) (L : List (List Int)) (most : Int) (W : World) (h0 : SS W v0 L) (_ : wfS L) (_ : wfI most) (hT : Tab W) :
    Calls Tryz.prog 4 #[v0, .int .i64 most] W fun e W' => e = .returned (.bool true) ∧ Below W.heap.size W W' := by
  obtain ⟨A0, c0, rfl, _⟩ := h0.form
  have H0 := Lib.hid h0
  have HT := Lib.hid hT
  clear h0 hT
  go_enter Tryz.func4, Tryz.ntmps4
  go_wp2_with fail
  refine (sane_any W HT.out).mono ?_
  rintro e w1 ⟨rfl, hB1⟩
  go_wp2_with fail
  cases hf : bOf (Tame L) with
  | false =>
    refine (tame_eq _ L _ (H0.out.up hB1) hf).mono ?_
    rintro e w2 ⟨rfl, rfl⟩
    clear hf
    go_wp2_with fail
    go_ret
    exact ⟨rfl, hB1⟩
  | true =>
    have HF := Lib.hid (bOf_iff.1 hf)
    refine (tame_eq _ L _ (H0.out.up hB1) hf).mono ?_
    rintro e w2 ⟨rfl, rfl⟩
    clear hf
    have hl12 : L.length ≤ 12 := HF.out.1.1
    go_wp2_with fail
    refine (All_any _ L most _ (H0.out.up hB1) (by omega) (HT.out.up hB1)).mono ?_
    rintro e w2 ⟨v2, M, c, rfl, hs2, hB2, hm2⟩
    have HS2 := Lib.hid hs2
    have HM2 := Lib.hid hm2
    have HBa := Lib.hid (bAfter hB1 hB2)
    clear hs2 hm2 hB2
    go_wp2_with fail
    refine (rAll_any _ L most _ (H0.out.up HBa.out) HF.out).mono ?_
    rintro e w3 ⟨v3, M3, c3, rfl, hs3, hB3, hm3⟩
    obtain ⟨e1, e2⟩ := all_same HM2.out hm3
    subst e1 e2
    have HS2' := Lib.hid (HS2.out.up hB3)
    have HS3 := Lib.hid hs3
    have HBb := Lib.hid (bAfter HBa.out hB3)
    clear hs3 hm3 hB3 HS2 HM2
    go_wp2_with fail
    refine (rSameAll_eq _ _ M M _ HS2'.out HS3.out (bOf_true rfl)).mono ?_
    rintro e w4 ⟨rfl, hB4⟩
    have HBc := Lib.hid (bAfter HBb.out hB4)
    clear hB4
    go_wp2_with fail
    go_ret
    exact ⟨by simp, HBc.out⟩
end Go.Proofs.YtbmdfnifbimfmaaGreatDoor
