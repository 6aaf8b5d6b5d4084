/- Walks of the reference: Least, Minimal. -/
import Derived.Test.YtbmdfnifbimfmaaGreatDoorR3
namespace Go.Proofs.YtbmdfnifbimfmaaGreatDoor
open Go.RowKit

theorem placeN_spec (L : List (List Int)) (s : List Int) (h : L.Pairwise ltS) (hn : s ∉ L) : (∀ l ∈ L.take (placeN L s), ltS l s) ∧ ∀ l ∈ L.drop (placeN L s), ltS s l := by
  have e : L.take (placeN L s) = L.takeWhile fun l => bOf (ltS l s) := (List.prefix_iff_eq_take.1 (List.takeWhile_prefix _)).symm
  have e2 : L.drop (placeN L s) = L.dropWhile fun l => bOf (ltS l s) := by
    have h3 : L.take (placeN L s) ++ L.drop (placeN L s) = L.take (placeN L s) ++ L.dropWhile fun l => bOf (ltS l s) := by
      rw [List.take_append_drop, e, List.takeWhile_append_dropWhile]
    exact List.append_cancel_left h3
  refine ⟨fun l hl => ?_, fun l hl => ?_⟩
  · rw [e] at hl
    have : ∀ (M : List (List Int)) (l : List Int), l ∈ M.takeWhile (fun l => bOf (ltS l s)) → ltS l s := by
      intro M
      induction M with
      | nil => intro l hl; cases hl
      | cons x M ih =>
        intro l hl
        rw [List.takeWhile_cons] at hl
        by_cases hx : ltS x s
        · rw [bOf_true hx] at hl
          rcases List.mem_cons.1 hl with rfl | hl
          · exact hx
          · exact ih l hl
        · rw [bOf_false hx] at hl; cases hl
    exact this L l hl
  · have hs : (L.drop (placeN L s)).Pairwise ltS := h.sublist (List.drop_sublist _ _)
    have hm : ∀ l ∈ L.drop (placeN L s), l ∈ L := fun l hl => List.mem_of_mem_drop hl
    rcases hd : L.drop (placeN L s) with _ | ⟨x, r⟩
    · rw [hd] at hl; cases hl
    · have hx : ¬ ltS x s := by
        rw [hd] at e2
        have : ∀ (M : List (List Int)) (x : List Int) (r : List (List Int)), x :: r = M.dropWhile (fun l => bOf (ltS l s)) → ¬ ltS x s := by
          intro M
          induction M with
          | nil => intro x r h; cases h
          | cons y M ih =>
            intro x r h
            rw [List.dropWhile_cons] at h
            by_cases hy : ltS y s
            · rw [bOf_true hy] at h; exact ih x r h
            · rw [bOf_false hy] at h; injection h with h1 h2; rw [h1]; exact hy
        exact this L x r e2
      have hxs : ltS s x := by
        rcases ltS_total x s with a | a | a
        · exact absurd a hx
        · exact absurd (by rw [← a]; exact hm x (by rw [hd]; simp)) hn
        · exact a
      rw [hd] at hl hs
      rcases List.mem_cons.1 hl with rfl | hl
      · exact hxs
      · exact ltS_trans hxs ((List.pairwise_cons.1 hs).1 l hl)
theorem withL_mem (L : List (List Int)) (s l : List Int) : l ∈ withL L s ↔ l ∈ L ∨ l = s := by
  unfold withL
  by_cases h : s ∈ L
  · rw [if_pos h]; constructor
    · exact .inl
    · rintro (h1 | rfl)
      · exact h1
      · exact h
  · rw [if_neg h]
    conv => rhs; rw [← List.take_append_drop (placeN L s) L]
    simp only [List.mem_append, List.mem_cons]
    constructor
    · rintro (h | h | h)
      · exact .inl (.inl h)
      · exact .inr h
      · exact .inl (.inr h)
    · rintro ((h | h) | h)
      · exact .inl h
      · exact .inr (.inr h)
      · exact .inr (.inl h)
theorem withL_sorted {L : List (List Int)} (h : L.Pairwise ltS) (s : List Int) : (withL L s).Pairwise ltS := by
  unfold withL
  by_cases hs : s ∈ L
  · rw [if_pos hs]; exact h
  · rw [if_neg hs]
    obtain ⟨h1, h2⟩ := placeN_spec L s h hs
    refine List.pairwise_append.2 ⟨h.sublist (List.take_sublist _ _), List.pairwise_cons.2 ⟨h2, h.sublist (List.drop_sublist _ _)⟩, fun a ha b hb => ?_⟩
    rcases List.mem_cons.1 hb with rfl | hb
    · exact h1 a ha
    · exact ltS_trans (h1 a ha) (h2 b hb)
theorem withL_len (L : List (List Int)) (s : List Int) : (withL L s).length ≤ L.length + 1 := by
  unfold withL
  split
  · omega
  · rw [List.length_append, List.length_cons, List.length_take, List.length_drop]; omega

/-- The reference's least sets. -/
noncomputable def lstF (L acc : List (List Int)) (l : List Int) : List (List Int) := @ite _ (∃ t ∈ L, PSub t l) (Classical.propDecidable _) acc (withL acc l)
theorem lstF_pos {L acc : List (List Int)} {l : List Int} (h : ∃ t ∈ L, PSub t l) : lstF L acc l = acc := by unfold lstF; exact if_pos h
theorem lstF_neg {L acc : List (List Int)} {l : List Int} (h : ¬ ∃ t ∈ L, PSub t l) : lstF L acc l = withL acc l := by unfold lstF; exact if_neg h
noncomputable def lstL (L M : List (List Int)) : List (List Int) := M.foldl (lstF L) []
theorem lstL_snoc {L M : List (List Int)} {k : Nat} {x : List Int} (hx : M[k]? = some x) : lstL L (M.take (k + 1)) = lstF L (lstL L (M.take k)) x := by
  unfold lstL; rw [take_snoc hx, List.foldl_append]; rfl
theorem lstL_fold (L : List (List Int)) : ∀ (M acc : List (List Int)), acc.Pairwise ltS → (M.foldl (lstF L) acc).Pairwise ltS ∧ (∀ l, l ∈ M.foldl (lstF L) acc ↔ l ∈ acc ∨ (l ∈ M ∧ ∀ t ∈ L, ¬ PSub t l)) ∧ (M.foldl (lstF L) acc).length ≤ acc.length + M.length
  | [], acc, h => ⟨h, fun l => by simp, by simp⟩
  | x :: M, acc, h => by
    rw [List.foldl_cons]
    by_cases hc : ∃ t ∈ L, PSub t x
    · rw [lstF_pos hc]
      obtain ⟨h1, h2, h3⟩ := lstL_fold L M acc h
      refine ⟨h1, fun l => ?_, by rw [List.length_cons]; omega⟩
      rw [h2, List.mem_cons]
      constructor
      · rintro (h | ⟨h, h'⟩)
        · exact .inl h
        · exact .inr ⟨.inr h, h'⟩
      · rintro (h | ⟨h | h, h'⟩)
        · exact .inl h
        · obtain ⟨t, ht, hp⟩ := hc; rw [h] at h'; exact absurd hp (h' t ht)
        · exact .inr ⟨h, h'⟩
    · rw [lstF_neg hc]
      obtain ⟨h1, h2, h3⟩ := lstL_fold L M (withL acc x) (withL_sorted h x)
      refine ⟨h1, fun l => ?_, by have := withL_len acc x; rw [List.length_cons]; omega⟩
      rw [h2, withL_mem, List.mem_cons]
      constructor
      · rintro ((h | h) | ⟨h, h'⟩)
        · exact .inl h
        · exact .inr ⟨.inl h, fun t ht hp => hc ⟨t, ht, by rw [← h]; exact hp⟩⟩
        · exact .inr ⟨.inr h, h'⟩
      · rintro (h | ⟨h | h, h'⟩)
        · exact .inl (.inl h)
        · exact .inl (.inr h)
        · exact .inr ⟨h, h'⟩
theorem lstL_min (L : List (List Int)) : IsMin L (lstL L L) := by
  obtain ⟨h1, h2, _⟩ := lstL_fold L L [] List.Pairwise.nil
  exact ⟨h1, fun l => by unfold lstL; rw [h2]; simp⟩
theorem lstL_len (L M : List (List Int)) : (lstL L M).length ≤ M.length := by
  obtain ⟨_, _, h⟩ := lstL_fold L M [] List.Pairwise.nil
  unfold lstL; simpa using h

theorem later_within {w : World} {s : Later w} {v1 v2 : Value} {a b : List Int} (h1 : SI w v1 a) (h2 : SI w v2 b) {c : Bool} (hc : bOf (Sub a b) = c) :
    Calls Tryz.prog 23 #[v1, v2] s.at fun e w'' => e = .returned (.bool c) ∧ ∃ s' : Later w, w'' = s'.at :=
  (rWithin_eq v1 v2 a b s.at (S1.up h1 s.below) (S1.up h2 s.below) hc).mono fun _ _ ⟨he, hw⟩ => ⟨he, s, hw.symm⟩

set_option maxRecDepth 100000 in
set_option maxHeartbeats 4000000 in
theorem rLeast_any (v : Value) (L : List (List Int)) (w : World) (h : SS w v L) (hl : L.length ≤ 100000) (hll : ∀ l ∈ L, l.length ≤ 1000000) : Calls Tryz.prog 30 #[v] w (RetSS w (lstL L L)) := by
  obtain ⟨A1, c1, rfl, hc1, hm1, hA1⟩ := h.form
  have H1 := Lib.hid hA1
  have HLL := Lib.hid hll
  clear hA1 h hm1 hc1 hll
  go_enter Tryz.func30, Tryz.ntmps30
  go_wp2_with fail
  go_loopw [3, 4] (fun vo i wr => ∃ k : Nat, k ≤ L.length ∧ i = .int .i64 k ∧ Hid (SS wr vo (lstL L (L.take k))) ∧ Below w.heap.size w wr) (fun _ i _ => L.length - (intOf i).toNat)
  case atStart => exact ⟨0, Nat.zero_le _, rfl, Lib.hid ⟨[], rfl, S1.lit w _ rfl _ _ _ [] 0 rfl rfl (by simp [maxLen]), fun _ h => by cases h⟩, (Below.refl _ _).alloc (Nat.le_refl _) _⟩
  case round =>
    obtain ⟨k, hk, rfl, HO, hB⟩ := hrel
    by_cases hlt : k < L.length
    · obtain ⟨b1, o1, rfl, hb1, hcell⟩ := H1.out (by omega)
      obtain ⟨x, hx⟩ := get_some hlt
      obtain ⟨u, d0, hu⟩ := hcell k x hx
      obtain ⟨Au, cu, rfl⟩ := SI.slice_form hu
      have gx := hu.len_le
      unfold maxLen at gx
      have HU := Lib.hid hu
      have HC := Lib.hid hcell
      have HD0 := Lib.hid d0
      have HSN := Lib.hid (lstL_snoc (L := L) hx)
      have hxl := HLL.out x (List.mem_of_getElem? hx)
      have q1 : (0 : Int) ≤ (k : Int) := by omega
      have q2 : (k : Int) < (L.length : Int) := by omega
      clear hx hu hcell d0
      obtain ⟨wo, rfl⟩ : ∃ wo : World, wo = wr := ⟨_, rfl⟩
      go_wp2_with fail
      go_loopw [5, 6] (fun bv i wr => ∃ (j : Nat) (b : Bool), j ≤ L.length ∧ i = .int .i64 j ∧ bv = .bool b ∧ Hid (b = true ↔ ∀ t ∈ L.take j, ¬ PSub t x) ∧ Below wo.heap.size wo wr) (fun _ i _ => L.length - (intOf i).toNat)
      case atStart => exact ⟨0, true, Nat.zero_le _, rfl, rfl, Lib.hid (by simp), Below.refl _ _⟩
      case round =>
        obtain ⟨j, b, hj, rfl, rfl, HR, hBi⟩ := hrel
        have hBa := bAfter hB hBi
        have HUw := Lib.hid (S1.up HU.out hBa)
        by_cases hjl : j < L.length
        · obtain ⟨y, hy⟩ := get_some hjl
          obtain ⟨uy, dy, huy⟩ := HC.out j y hy
          obtain ⟨Ay, cy, rfl⟩ := SI.slice_form huy
          have gy := huy.len_le
          unfold maxLen at gy
          have e1 := later_old ((hBa.cell (p := ⟨b1, o1 + k, none⟩) hb1).trans HD0.out)
          have e2 := later_old ((hBa.cell (p := ⟨b1, o1 + j, none⟩) hb1).trans dy)
          have HUY := Lib.hid (S1.up huy hBa)
          have HY := Lib.hid (take_snoc hy)
          have p1 : (0 : Int) ≤ (j : Int) := by omega
          have p2 : (j : Int) < (L.length : Int) := by omega
          clear hy dy huy
          cases hs : bOf (Sub y x) with
          | false =>
            have HS := Lib.hid hs
            clear hs
            go_wp2_with fail
            refine wp_region_later (by kernel_rfl) (by kernel_rfl) ?_
            repeat (first | go_big_quiet_step (with_reducible exact later_within HUY.out HUw.out HS.out) | quiet_step (with_reducible exact later_within HUY.out HUw.out HS.out))
            refine wpQuiet_nil ?_
            rintro _ ⟨s, rfl⟩
            have hB7 := s.below
            generalize s.at = w7 at *
            clear e1 e2
            go_wp2_with fail
            go_roundw
            case rel => exact ⟨j + 1, b, by omega, by go_num, rfl, Lib.hid (by
                          rw [HR.out, HY.out]
                          constructor
                          · intro h t ht
                            rcases List.mem_append.1 ht with ht | ht
                            · exact h t ht
                            · rw [List.mem_singleton.1 ht]; exact fun hp => bOf_false_iff.1 HS.out hp.2
                          · exact fun h t ht => h t (List.mem_append_left _ ht)), bAfter hBi hB7⟩
            case measure => simp [intOf]; omega
          | true =>
            have HS := Lib.hid hs
            clear hs
            by_cases hlen : y.length < x.length
            · have f1 : decide (y.length < x.length) = true := by simp [hlen]
              have f2 : decide ((y.length : Int) < (x.length : Int)) = true := by simp [hlen]
              go_wp2_with fail
              refine wp_region_later (by kernel_rfl) (by kernel_rfl) ?_
              repeat (first | go_big_quiet_step (with_reducible exact later_within HUY.out HUw.out HS.out) | quiet_step (with_reducible exact later_within HUY.out HUw.out HS.out))
              refine wpQuiet_nil ?_
              rintro _ ⟨s, rfl⟩
              have hB7 := s.below
              generalize s.at = w7 at *
              clear e1 e2
              go_wp2_with fail
              go_roundw
              case rel => exact ⟨j + 1, false, by omega, by go_num, rfl, Lib.hid (by
                            rw [HY.out]
                            constructor
                            · intro h; cases h
                            · intro h; exact absurd ⟨hlen, bOf_iff.1 HS.out⟩ (h y (List.mem_append_right _ (by simp)))), bAfter hBi hB7⟩
              case measure => simp [intOf]; omega
            · have f1 : decide (y.length < x.length) = false := by simp; omega
              have f2 : decide ((y.length : Int) < (x.length : Int)) = false := by simp; omega
              go_wp2_with fail
              refine wp_region_later (by kernel_rfl) (by kernel_rfl) ?_
              repeat (first | go_big_quiet_step (with_reducible exact later_within HUY.out HUw.out HS.out) | quiet_step (with_reducible exact later_within HUY.out HUw.out HS.out))
              refine wpQuiet_nil ?_
              rintro _ ⟨s, rfl⟩
              have hB7 := s.below
              generalize s.at = w7 at *
              clear e1 e2
              go_wp2_with fail
              go_roundw
              case rel => exact ⟨j + 1, b, by omega, by go_num, rfl, Lib.hid (by
                            rw [HR.out, HY.out]
                            constructor
                            · intro h t ht
                              rcases List.mem_append.1 ht with ht | ht
                              · exact h t ht
                              · rw [List.mem_singleton.1 ht]; exact fun hp => hlen hp.1
                            · exact fun h t ht => h t (List.mem_append_left _ ht)), bAfter hBi hB7⟩
              case measure => simp [intOf]; omega
        · obtain rfl : j = L.length := by omega
          have HRR : Hid (b = true ↔ ∀ t ∈ L, ¬ PSub t x) := Lib.hid (by have := HR.out; rwa [List.take_length] at this)
          clear HR
          have hlo := lstL_len L (L.take k)
          rw [List.length_take] at hlo
          cases b with
          | true =>
            have e1 := (hBa.cell (p := ⟨b1, o1 + k, none⟩) hb1).trans HD0.out
            go_wp2_with fail
            refine (rWith_any _ _ _ x _ (SS.up HO.out hBi) HUw.out (by omega) hxl).mono ?_
            rintro e w7 ⟨v7, rfl, hs7, hB7⟩
            have HS7 := Lib.hid hs7
            clear hs7
            go_wp2_with fail
            go_roundw
            case rel => exact ⟨k + 1, by omega, by go_num, Lib.hid (by rw [HSN.out, lstF_neg (fun ⟨t, ht, hp⟩ => HRR.out.1 (by simp) t ht hp)]; exact HS7.out), bAfter hBa hB7⟩
            case measure => simp [intOf]; omega
          | false =>
            go_wp2_with fail
            go_roundw
            case rel => exact ⟨k + 1, by omega, by go_num, Lib.hid (by
                          rw [HSN.out, lstF_pos (Classical.byContradiction fun hc => by have := HRR.out.2 (fun t ht hp => hc ⟨t, ht, hp⟩); cases this)]
                          exact SS.up HO.out hBi), hBa⟩
            case measure => simp [intOf]; omega
    · obtain rfl : k = L.length := by omega
      go_wp2_with fail
      go_ret
      exact ⟨_, rfl, by have := HO.out; rwa [List.take_length] at this, hB⟩

set_option maxHeartbeats 1000000 in
theorem rMinimal_any (v : Value) (L : List (List Int)) (w : World) (h : SS w v L) (hl : L.length ≤ 100000) (hll : ∀ l ∈ L, l.length ≤ 1000000) :
    Calls Tryz.prog 12 #[v] w (MinimalPost w L) := by
  have H := Lib.hid h
  have HLL := Lib.hid hll
  clear h hll
  cases hv : bOf (ValidAll L) with
  | true =>
    have HV := Lib.hid hv
    clear hv
    have HVA := Lib.hid (bOf_iff.1 HV.out)
    go_enter Tryz.func12, Tryz.ntmps12
    go_wp2_with fail
    refine (rValidAll_eq _ L _ H.out HV.out).mono ?_
    rintro e w1 ⟨rfl, hB1⟩
    go_wp2_with fail
    refine (rLeast_any _ L _ (H.out.up hB1) hl HLL.out).mono ?_
    rintro e w2 ⟨v1, rfl, hs, hB2⟩
    have HS := Lib.hid hs
    clear hs
    go_wp2_with fail
    go_ret2
    exact ⟨v1, lstL L L, by rw [HV.out]; rfl, HS.out, fun _ => lstL_min L, fun h => absurd HVA.out h, lstL_len L L, bAfter hB1 hB2⟩
  | false =>
    have HV := Lib.hid hv
    clear hv
    go_enter Tryz.func12, Tryz.ntmps12
    go_wp2_with fail
    refine (rValidAll_eq _ L _ H.out HV.out).mono ?_
    rintro e w1 ⟨rfl, hB1⟩
    go_wp2_with fail
    go_ret2
    exact ⟨.slice none 0 0, [], by rw [HV.out]; rfl, SS.nil _, fun h => absurd h (bOf_false_iff.1 HV.out), fun _ => rfl, Nat.zero_le _, hB1⟩
end Go.Proofs.YtbmdfnifbimfmaaGreatDoor
