/- The reference's Union, both. -/
import Derived.Test.YtidaklcinddghaaD0
import Derived.Test.YtidaklcinddghaaB2
namespace Go.Proofs.Ytidaklcinddghaa
open Go.RowKit Go.Shelf

theorem take_snoc {l : List (Int × Int)} {j : Nat} {x : Int × Int} (hx : l[j]? = some x) : l.take j ++ [x] = l.take (j + 1) := by
  rw [List.take_add_one, hx]; rfl

set_option maxRecDepth 100000 in
set_option maxHeartbeats 4000000 in
theorem rUnion_any (v : Value) (l : List (Int × Int)) (w : World) (h : SlIv w v l) (hlen : l.length ≤ 1000000) : Calls Try.prog 12 #[v] w (UnionPost w l) := by
  obtain ⟨A, c, rfl, hS⟩ := h
  have H : Hid (SlIv w (.slice A l.length c) l) := Lib.hid ⟨A, c, rfl, hS⟩
  clear hS
  obtain ⟨k, hk⟩ : ∃ k, chkAll l = k := ⟨_, rfl⟩
  have HK := Lib.hid hk
  by_cases hk0 : k = 0
  · subst hk0
    have HOK := Lib.hid (ok_of_chkAll hk)
    clear hk
    go_enter Try.func12, Try.ntmps12
    go_wp2_with fail
    refine (rAll_any _ l _ H.out).mono ?_
    rintro e w1 ⟨rfl, hB1⟩
    rw [HK.out]
    have H1 := Lib.hid (slUp hB1 H.out)
    clear H
    go_wp2_with fail
    go_loopw [5, 6] (fun vo q wr => ∃ j : Nat, j ≤ l.length ∧ q = .int .i64 j ∧ Hid (wr.ownsRow w.heap.size 23 2 vo (unionC (l.take j)).length ((unionC (l.take j)).flatMap encIv)) ∧ Below w1.heap.size w1 wr) (fun _ q _ => l.length - (intOf q).toNat)
    case atStart => exact ⟨0, Nat.zero_le _, rfl, Lib.hid (by exact World.ownsRow_made _ #[] 0 hB1.size (by simp [maxLen]) rfl), (Below.refl _ _).alloc (Nat.le_refl _) _⟩
    case round =>
      obtain ⟨j, hj, rfl, HR, hB⟩ := hrel
      by_cases hlt : j < l.length
      · obtain ⟨A', c', hv', hc', hm', hA'⟩ := H1.out
        obtain ⟨rfl, _, rfl⟩ : A = A' ∧ l.length = l.length ∧ c = c' := by injection hv' with h1 h2 h3; exact ⟨h1, h2, h3⟩
        obtain ⟨b, off, rfl, hb, hcell⟩ := hA' (by omega)
        obtain ⟨x, hx⟩ : ∃ x, l[j]? = some x := ⟨l[j], by simp [hlt]⟩
        have c0 : wr.cell? ⟨b, off + j * 2, none⟩ = some (.int .i64 x.1) := (hB.cell hb).trans (hcell _ x hx 0 _ rfl)
        have c1 : wr.cell? ⟨b, off + j * 2 + 1, none⟩ = some (.int .i64 x.2) := (hB.cell hb).trans (hcell _ x hx 1 _ rfl)
        have hsub : ∀ y ∈ l.take j, Ok y := fun y hy => HOK.out y (List.mem_of_mem_take hy)
        have hox : Ok x := HOK.out x (List.mem_of_getElem? hx)
        have hadd : addL x (unionC (l.take j)) = unionC (l.take (j + 1)) := by rw [addL_union hsub hox, take_snoc hx]
        have hsep := (unionC_spec (l := l.take j) (fun y hy => (hsub y hy).2.1)).1
        have huo := unionC_ok hsub
        have hul : (unionC (l.take j)).length ≤ 1000000 := Nat.le_trans (unionC_len _) (by rw [List.length_take]; omega)
        have HADD := Lib.hid hadd
        have HSEP := Lib.hid hsep
        have HUO := Lib.hid huo
        have HUL := Lib.hid hul
        have HX := Lib.hid hox
        have SR := Lib.hid (own_sl HR.out (Nat.le_refl _))
        clear hcell hx hA' hv' hm' hc' hsub hox hadd hsep huo hul
        have g1 : (0 : Int) ≤ (j : Int) := by omega
        have g2 : (j : Int) < (l.length : Int) := by omega
        go_wp2_with fail
        refine (rAdd_any _ _ x _ SR.out HSEP.out HUO.out HX.out HUL.out).mono ?_
        rintro e w2 ⟨v2, rfl, hr2, hB2⟩
        rw [HADD.out] at hr2
        have HR2 := Lib.hid (ownsRow_base hr2 (Nat.le_trans hB1.size hB.size))
        have hB3 : Below w1.heap.size w1 w2 := bAft hB2 hB (Nat.le_refl _)
        clear hr2 c0 c1
        go_wp2_with fail
        go_roundw
        case rel => exact ⟨j + 1, by omega, by go_num, HR2, hB3⟩
        case measure => simp [intOf]; omega
      · obtain rfl : j = l.length := by omega
        go_wp2_with fail
        go_ret2
        refine ⟨u5, by rw [HK.out]; rfl, ?_, bAfter hB1 hB⟩
        have := HR.out
        rw [List.take_of_length_le (Nat.le_refl _)] at this
        rw [show unionR l = unionC l from if_pos HK.out]
        exact this
  · have hk1 := neq_int_true hk0
    clear hk
    go_enter Try.func12, Try.ntmps12
    go_wp2_with fail
    refine (rAll_any _ l _ H.out).mono ?_
    rintro e w1 ⟨rfl, hB1⟩
    rw [HK.out]
    go_wp2_with fail
    go_ret2
    refine ⟨.slice none 0 0, by rw [HK.out]; rfl, ?_, hB1⟩
    rw [show unionR l = [] from if_neg (by rw [HK.out]; exact hk0)]
    exact World.ownsRow_nil _ _ _ _
end Go.Proofs.Ytidaklcinddghaa
