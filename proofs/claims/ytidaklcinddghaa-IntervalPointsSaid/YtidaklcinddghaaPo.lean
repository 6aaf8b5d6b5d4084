/- More plain laws for the interval laws. -/
import Derived.Test.YtidaklcinddghaaPn
namespace Go.Proofs.Ytidaklcinddghaa

theorem sep_two {u : List (Int × Int)} (hs : Sep u) {x y : Int × Int} (hx : x ∈ u) (hy : y ∈ u) : x = y ∨ x.2 + 1 < y.1 ∨ y.2 + 1 < x.1 := by
  induction u with
  | nil => cases hx
  | cons z u ih =>
    obtain ⟨_, h2, h3⟩ := sep_cons.1 hs
    rcases List.mem_cons.1 hx with ex | hx'
    · rcases List.mem_cons.1 hy with ey | hy'
      · exact .inl (ex.trans ey.symm)
      · exact .inr (.inl (by rw [ex]; exact h2 y hy'))
    · rcases List.mem_cons.1 hy with ey | hy'
      · exact .inr (.inr (by rw [ey]; exact h2 x hx'))
      · exact ih h3 hx' hy'
theorem sep_inside {u : List (Int × Int)} (hs : Sep u) {i : Int × Int} (hi : i.1 ≤ i.2) (h : ∀ n, inI n i → memL n u) : ∃ x ∈ u, x.1 ≤ i.1 ∧ i.2 ≤ x.2 := by
  obtain ⟨x, hx, h1, h2⟩ := h i.1 ⟨Int.le_refl _, hi⟩
  refine ⟨x, hx, h1, ?_⟩
  by_cases hlt : x.2 < i.2
  · obtain ⟨y, hy, h3, h4⟩ := h (x.2 + 1) ⟨by omega, by omega⟩
    rcases sep_two hs hx hy with e | e | e
    · rw [e] at h4; omega
    · omega
    · omega
  · omega
theorem inside_iff {i : Int × Int} {l : List (Int × Int)} (hi : Ok i) (hl : ∀ x ∈ l, Ok x) : (unionC l).any (withinB i) = true ↔ ∀ n, inI n i → memL n l := by
  obtain ⟨h1, h2⟩ := unionC_spec (l := l) (fun x hx => (hl x hx).2.1)
  have hu := unionC_ok hl
  have hw : ∀ x ∈ unionC l, withinB i x = true ↔ x.1 ≤ i.1 ∧ i.2 ≤ x.2 := by
    intro x hx
    unfold withinB
    rw [chkAll_of_ok (l := [i, x]) (by simp [hi, hu x hx])]
    simp
  rw [List.any_eq_true]
  constructor
  · rintro ⟨x, hx, hxx⟩ n hn
    obtain ⟨a, b⟩ := (hw x hx).1 hxx
    exact (h2 n).1 ⟨x, hx, by unfold inI at *; omega⟩
  · intro h
    obtain ⟨x, hx, hxx⟩ := sep_inside h1 hi.2.1 (fun n hn => (h2 n).2 (h n hn))
    exact ⟨x, hx, (hw x hx).2 hxx⟩
theorem without_spec {i : Int × Int} {l : List (Int × Int)} (hl : ∀ x ∈ l, Ok x) : Sep (woL i.2 i.1 (unionC l)) ∧ ∀ n, memL n (woL i.2 i.1 (unionC l)) ↔ inI n i ∧ ¬ memL n l := by
  obtain ⟨h1, h2⟩ := unionC_spec (l := l) (fun x hx => (hl x hx).2.1)
  obtain ⟨h3, _, h4⟩ := woL_spec i.2 (unionC l) i.1 h1
  exact ⟨h3, fun n => by rw [h4, h2]; rfl⟩
theorem without_ok {i : Int × Int} {l : List (Int × Int)} (hi : Ok i) (hl : ∀ x ∈ l, Ok x) : ∀ x ∈ woL i.2 i.1 (unionC l), Ok x := by
  obtain ⟨h1, h2⟩ := without_spec (i := i) hl
  exact sep_mem_ok (l := [i]) (by simp [hi]) h1 fun n hn => ⟨i, by simp, ((h2 n).1 hn).1⟩
theorem sep_empty {u : List (Int × Int)} (hs : Sep u) : u.length = 0 ↔ ∀ n, ¬ memL n u := by
  constructor
  · intro h n hn
    rw [List.eq_nil_of_length_eq_zero h] at hn
    exact memL_nil n hn
  · intro h
    cases u with
    | nil => rfl
    | cons x u => exact absurd ⟨x, by simp, Int.le_refl _, (sep_cons.1 hs).1⟩ (h x.1)
theorem without_empty {i : Int × Int} {l : List (Int × Int)} (hi : Ok i) (hl : ∀ x ∈ l, Ok x) : (woL i.2 i.1 (unionC l)).length = 0 ↔ (unionC l).any (withinB i) = true := by
  obtain ⟨h1, h2⟩ := without_spec (i := i) hl
  rw [inside_iff hi hl, sep_empty h1]
  constructor
  · intro h n hn
    by_cases hm : memL n l
    · exact hm
    · exact absurd ((h2 n).2 ⟨hn, hm⟩) (h n)
  · intro h n hn
    obtain ⟨a, b⟩ := (h2 n).1 hn
    exact b (h n a)
theorem woFin_len (lo hi : Int) : (woFin lo hi).length ≤ 1 := by unfold woFin; split <;> simp
theorem woL_len (hi : Int) : ∀ (u : List (Int × Int)) (lo : Int), (woL hi lo u).length ≤ u.length + 1
  | [], lo => by rw [woL]; exact woFin_len _ _
  | x :: u, lo => by
    rw [woL]
    split
    · exact Nat.le_trans (woL_len hi u lo) (by simp)
    · split
      · exact Nat.le_trans (woFin_len _ _) (by simp)
      · split
        · have := woL_len hi u (x.2 + 1); simp; omega
        · exact Nat.le_trans (woL_len hi u _) (by simp)
/-- The list and what remains contain the interval. -/
theorem inside_both {i : Int × Int} {l : List (Int × Int)} (hi : Ok i) (hl : ∀ x ∈ l, Ok x) : insideR i (l ++ woL i.2 i.1 (unionC l)) = true ∧ bothE i (l ++ woL i.2 i.1 (unionC l)) = 0 := by
  obtain ⟨_, h2⟩ := without_spec (i := i) hl
  have ho := without_ok hi hl
  have hall : ∀ x ∈ l ++ woL i.2 i.1 (unionC l), Ok x := by
    intro x hx
    rcases List.mem_append.1 hx with h | h
    · exact hl x h
    · exact ho x h
  have hb : bothE i (l ++ woL i.2 i.1 (unionC l)) = 0 := by
    unfold bothE
    rw [if_pos (chk_of_ok hi), chkAll_of_ok hall]
  refine ⟨?_, hb⟩
  unfold insideR
  rw [if_pos hb, inside_iff hi hall]
  intro n hn
  rw [memL_append]
  by_cases hm : memL n l
  · exact .inl hm
  · exact .inr ((h2 n).2 ⟨hn, hm⟩)
end Go.Proofs.Ytidaklcinddghaa
