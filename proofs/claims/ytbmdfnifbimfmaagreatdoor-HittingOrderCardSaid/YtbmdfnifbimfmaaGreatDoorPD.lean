/- Plain: minimal sets and minimal hitting sets are dual; order and repetition have no effect. -/
import Derived.Test.YtbmdfnifbimfmaaGreatDoorG6
namespace Go.Proofs.YtbmdfnifbimfmaaGreatDoor
open Go.RowKit Go.Shelf

/-- Each hitting set contains a minimal one. -/
theorem mhs_within {L : List (List Int)} : ∀ (n : Nat) (U : List Int), U.length ≤ n → Inc U → (∀ s ∈ L, ∃ x ∈ s, x ∈ U) → ∃ H, MHS L H ∧ ∀ x ∈ H, x ∈ U
  | 0, U, hn, hi, hh => by
    have : U = [] := List.eq_nil_of_length_eq_zero (by omega)
    subst this
    exact ⟨[], ⟨hi, hh, fun x hx => (nomatch hx)⟩, fun _ h => h⟩
  | n + 1, U, hn, hi, hh => by
    by_cases hc : ∀ x ∈ U, ∃ s ∈ L, x ∈ s ∧ ∀ y ∈ s, y ∈ U → y = x
    · exact ⟨U, ⟨hi, hh, hc⟩, fun _ h => h⟩
    · obtain ⟨x, hx⟩ := Classical.not_forall.1 hc
      obtain ⟨hxU, hx⟩ := Classical.not_imp.1 hx
      have hlt : (U.filter fun y => decide (y ≠ x)).length < U.length := by
        rcases Nat.lt_or_ge (U.filter fun y => decide (y ≠ x)).length U.length with h | h
        · exact h
        · have hle := List.length_filter_le (fun y => decide (y ≠ x)) U
          have := (List.filter_eq_self.1 (List.filter_sublist.eq_of_length_le h)) x hxU
          simp at this
      obtain ⟨H, h1, h2⟩ := mhs_within n (U.filter fun y => decide (y ≠ x)) (by omega) (hi.filter _) (fun s hs => by
        by_cases hxs : x ∈ s
        · refine Classical.byContradiction fun hno => hx ⟨s, hs, hxs, fun y hy hyU => Classical.byContradiction fun hne => hno ⟨y, hy, List.mem_filter.2 ⟨hyU, by simpa using hne⟩⟩⟩
        · obtain ⟨y, hy, hyU⟩ := hh s hs
          exact ⟨y, hy, List.mem_filter.2 ⟨hyU, by simp; rintro rfl; exact hxs hy⟩⟩)
      exact ⟨H, h1, fun y hy => (List.mem_filter.1 (h2 y hy)).1⟩

/-- The elements that a set may have. -/
def univL : List Int := (List.range 1024).map fun n : Nat => (n : Int)
theorem univ_inc : Inc univL := by
  unfold Inc univL
  exact List.Pairwise.map _ (fun a b h => by omega) List.pairwise_lt_range
theorem mem_univ {x : Int} : x ∈ univL ↔ 0 ≤ x ∧ x ≤ 1023 := by
  unfold univL
  rw [List.mem_map]
  constructor
  · rintro ⟨n, hn, rfl⟩; rw [List.mem_range] at hn; omega
  · rintro ⟨h0, h1⟩; exact ⟨x.toNat, List.mem_range.2 (by omega), by omega⟩

theorem mhs_valid {L : List (List Int)} (hv : ValidAll L) {T : List Int} (h : MHS L T) : Valid T :=
  ⟨fun x hx => by obtain ⟨s, hs, hxs, _⟩ := h.2.2 x hx; exact (hv s hs).1 x hxs, h.1⟩
open Classical in
/-- A set that hits each list, out of the elements of which p holds. -/
theorem mhs_of {L : List (List Int)} (hv : ValidAll L) (p : Int → Prop) (h : ∀ s ∈ L, ∃ x ∈ s, p x) : ∃ H, MHS L H ∧ ∀ x ∈ H, p x := by
  obtain ⟨H, h1, h2⟩ := mhs_within (L := L) _ (univL.filter fun x => decide (p x)) (Nat.le_refl _) (univ_inc.filter _) (fun s hs => by
    obtain ⟨x, hx, hp⟩ := h s hs
    exact ⟨x, hx, List.mem_filter.2 ⟨mem_univ.2 ((hv s hs).1 x hx), by simpa using hp⟩⟩)
  exact ⟨H, h1, fun x hx => by simpa using (List.mem_filter.1 (h2 x hx)).2⟩

theorem dual_min {L N M : List (List Int)} (hv : ValidAll L) (hN : ∀ T, T ∈ N ↔ MHS L T) (hM : IsMin L M) {T : List Int} (hT : T ∈ M) : MHS N T := by
  obtain ⟨hTL, hmin⟩ := (hM.2 T).1 hT
  have hTi : Inc T := (hv T hTL).2
  refine ⟨hTi, fun H hH => ?_, fun x hx => ?_⟩
  · obtain ⟨y, hy, hyH⟩ := ((hN H).1 hH).2.1 T hTL
    exact ⟨y, hyH, hy⟩
  · obtain ⟨H, h1, h2⟩ := mhs_of hv (fun y => y ∉ T ∨ y = x) (fun s hs => by
      by_cases hsub : Sub s T
      · have hlen : T.length ≤ s.length := by
          rcases Nat.lt_or_ge s.length T.length with h | h
          · exact absurd ⟨h, hsub⟩ (hmin s hs)
          · exact h
        have hnd := inc_nodup (hv s hs).2
        refine ⟨x, ?_, .inr rfl⟩
        refine Classical.byContradiction fun hxs => ?_
        have h2 : (x :: s).Nodup := List.nodup_cons.2 ⟨hxs, hnd⟩
        have := nodup_len h2 (fun y hy => by
          rcases List.mem_cons.1 hy with rfl | hy
          · exact hx
          · exact hsub y hy)
        simp at this
        omega
      · obtain ⟨y, hy⟩ := Classical.not_forall.1 hsub
        obtain ⟨hys, hyT⟩ := Classical.not_imp.1 hy
        exact ⟨y, hys, .inl hyT⟩)
    have hxH : x ∈ H := by
      obtain ⟨y, hy, hyH⟩ := h1.2.1 T hTL
      rcases h2 y hyH with h | rfl
      · exact absurd hy h
      · exact hyH
    refine ⟨H, (hN H).2 h1, hxH, fun y hy hyT => ?_⟩
    rcases h2 y hy with h | h
    · exact absurd hyT h
    · exact h

/-- The minimal hitting sets of the minimal hitting sets are the minimal sets. -/
theorem dual_all {L N M : List (List Int)} (hv : ValidAll L) (hN : ∀ T, T ∈ N ↔ MHS L T) (hM : IsMin L M) : IsAll N M := by
  refine ⟨hM.1, fun T => ⟨dual_min hv hN hM, fun h => ?_⟩⟩
  have hsub : ∃ s ∈ L, Sub s T := Classical.byContradiction fun hno => by
    obtain ⟨H, h1, h2⟩ := mhs_of hv (fun y => y ∉ T) (fun s hs => Classical.byContradiction fun hn => hno ⟨s, hs, fun x hx => Classical.byContradiction fun hxT => hn ⟨x, hx, hxT⟩⟩)
    obtain ⟨y, hyH, hyT⟩ := h.2.1 H ((hN H).2 h1)
    exact h2 y hyH hyT
  obtain ⟨l, hl, hlT⟩ := hsub
  obtain ⟨s, hs, hsl⟩ := isMin_below hv hM l.length l (Nat.le_refl _) hl
  have hsi := dual_min hv hN hM hs
  have : s = T := inc_unique hsi.1 h.1 fun x => by
    refine ⟨fun hx => hlT x (hsl x hx), fun hx => ?_⟩
    obtain ⟨H, hH, hxH, hu⟩ := h.2.2 x hx
    obtain ⟨y, hyH, hys⟩ := hsi.2.1 H hH
    rw [← hu y hyH (hlT y (hsl y hys))]; exact hys
  rw [← this]; exact hs

/-- Each element is needed. -/
theorem mhs_needs {L : List (List Int)} {T : List Int} (h : MHS L T) {i : Nat} {x : Int} (hx : T[i]? = some x) : ¬ ∀ l ∈ L, Meet (T.take i ++ T.drop (i + 1)) l := by
  intro hh
  obtain ⟨s, hs, hxs, hu⟩ := h.2.2 x (List.mem_of_getElem? hx)
  obtain ⟨y, hy, hys⟩ := hh s hs
  have hd : T = T.take i ++ x :: T.drop (i + 1) := by
    obtain ⟨hl, rfl⟩ := List.getElem?_eq_some_iff.1 hx
    rw [← List.drop_eq_getElem_cons hl, List.take_append_drop]
  have hyT : y ∈ T := by
    rcases List.mem_append.1 hy with h | h
    · exact List.mem_of_mem_take h
    · exact List.mem_of_mem_drop h
  have hxy := hu y hys hyT
  subst hxy
  have hnd := inc_nodup h.1
  rw [hd, List.nodup_append] at hnd
  rcases List.mem_append.1 hy with h | h
  · exact hnd.2.2 y h y (by simp) rfl
  · exact (List.nodup_cons.1 hnd.2.1).1 h
theorem mhs_hits {L : List (List Int)} {T : List Int} (h : MHS L T) : ∀ l ∈ L, Meet T l := fun l hl => by
  obtain ⟨x, h1, h2⟩ := h.2.1 l hl; exact ⟨x, h2, h1⟩

/-! ### The same members -/
def SameM (L L' : List (List Int)) : Prop := ∀ x, x ∈ L ↔ x ∈ L'
theorem SameM.valid {L L' : List (List Int)} (h : SameM L L') : ValidAll L ↔ ValidAll L' := ⟨fun hv l hl => hv l ((h l).2 hl), fun hv l hl => hv l ((h l).1 hl)⟩
theorem SameM.min {L L' M : List (List Int)} (h : SameM L L') (hm : IsMin L M) : IsMin L' M := ⟨hm.1, fun l => by rw [hm.2, h l]; exact and_congr_right fun _ => ⟨fun g t ht => g t ((h t).2 ht), fun g t ht => g t ((h t).1 ht)⟩⟩
theorem SameM.mhs {L L' : List (List Int)} (h : SameM L L') {T : List Int} (hm : MHS L T) : MHS L' T :=
  ⟨hm.1, fun s hs => hm.2.1 s ((h s).2 hs), fun x hx => by obtain ⟨s, hs, r⟩ := hm.2.2 x hx; exact ⟨s, (h s).1 hs, r⟩⟩
theorem SameM.symm {L L' : List (List Int)} (h : SameM L L') : SameM L' L := fun x => (h x).symm
theorem SameM.hits {L L' : List (List Int)} (h : SameM L L') (s : List Int) : (∀ l ∈ L, Meet s l) ↔ ∀ l ∈ L', Meet s l := ⟨fun g l hl => g l ((h l).2 hl), fun g l hl => g l ((h l).1 hl)⟩
theorem min_hits {L M : List (List Int)} (hv : ValidAll L) (hM : IsMin L M) (s : List Int) : (∀ l ∈ M, Meet s l) ↔ ∀ l ∈ L, Meet s l := by
  constructor
  · intro h l hl
    obtain ⟨t, ht, hs⟩ := isMin_below hv hM l.length l (Nat.le_refl _) hl
    obtain ⟨x, hx, hxt⟩ := h t ht
    exact ⟨x, hx, hs x hxt⟩
  · exact fun h l hl => h l ((hM.2 l).1 hl).1
theorem turned_same {L : List (List Int)} {i : Nat} {x : List Int} (hx : L[i]? = some x) : SameM L (L.drop i ++ L.take i ++ [x]) := fun y => by
  constructor
  · intro h
    rw [← List.take_append_drop i L] at h
    rcases List.mem_append.1 h with h | h
    · simp [h]
    · simp [h]
  · intro h
    rcases List.mem_append.1 h with h | h
    · rcases List.mem_append.1 h with h | h
      · exact List.mem_of_mem_drop h
      · exact List.mem_of_mem_take h
    · rw [List.mem_singleton.1 h]; exact List.mem_of_getElem? hx
end Go.Proofs.YtbmdfnifbimfmaaGreatDoor
