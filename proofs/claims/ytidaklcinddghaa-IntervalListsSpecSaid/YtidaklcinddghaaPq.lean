/- The plain law of IntervalSteps. -/
import Derived.Test.YtidaklcinddghaaPo
namespace Go.Proofs.Ytidaklcinddghaa

theorem memL_flatMap (F : Int × Int → List (Int × Int)) (n : Int) (b : List (Int × Int)) : memL n (b.flatMap F) ↔ ∃ x ∈ b, memL n (F x) := by
  constructor
  · rintro ⟨y, hy, hn⟩
    obtain ⟨x, hx, hyx⟩ := List.mem_flatMap.1 hy
    exact ⟨x, hx, y, hyx, hn⟩
  · rintro ⟨x, hx, y, hy, hn⟩
    exact ⟨y, List.mem_flatMap.2 ⟨x, hx, hy⟩, hn⟩
theorem sep_append {a b : List (Int × Int)} (ha : Sep a) (hb : Sep b) (h : ∀ x ∈ a, ∀ y ∈ b, x.2 + 1 < y.1) : Sep (a ++ b) := by
  refine ⟨?_, List.pairwise_append.2 ⟨ha.2, hb.2, h⟩⟩
  intro x hx
  rcases List.mem_append.1 hx with h | h
  · exact ha.1 x h
  · exact hb.1 x h
theorem sep_flat (F : Int × Int → List (Int × Int)) : ∀ b : List (Int × Int), Sep b → (∀ x ∈ b, Sep (F x) ∧ ∀ y ∈ F x, x.1 ≤ y.1 ∧ y.2 ≤ x.2) → Sep (b.flatMap F)
  | [], _, _ => sep_nil
  | x :: b, hs, h => by
    obtain ⟨_, h2, h3⟩ := sep_cons.1 hs
    rw [List.flatMap_cons]
    refine sep_append (h x (by simp)).1 (sep_flat F b h3 (fun y hy => h y (by simp [hy]))) ?_
    intro y hy z hz
    obtain ⟨x', hx', hz'⟩ := List.mem_flatMap.1 hz
    have h4 := (h x (by simp)).2 y hy
    have h5 := (h x' (by simp [hx'])).2 z hz'
    have := h2 x' hx'
    omega
theorem without_in {i : Int × Int} {l : List (Int × Int)} (hl : ∀ x ∈ l, Ok x) : ∀ y ∈ woL i.2 i.1 (unionC l), i.1 ≤ y.1 ∧ y.2 ≤ i.2 := by
  intro y hy
  obtain ⟨h1, h2⟩ := without_spec (i := i) hl
  have hle := h1.1 y hy
  have a := ((h2 y.1).1 ⟨y, hy, Int.le_refl _, hle⟩).1
  have b := ((h2 y.2).1 ⟨y, hy, hle, Int.le_refl _⟩).1
  exact ⟨a.1, b.2⟩
theorem steps_eq {i : Int × Int} {l m : List (Int × Int)} (hl : ∀ x ∈ l, Ok x) (hm : ∀ x ∈ m, Ok x) :
    woL i.2 i.1 (unionC (l ++ m)) = (woL i.2 i.1 (unionC l)).flatMap (fun x => woL x.2 x.1 (unionC m)) := by
  have hlm : ∀ x ∈ l ++ m, Ok x := by
    intro x hx
    rcases List.mem_append.1 hx with h | h
    · exact hl x h
    · exact hm x h
  obtain ⟨a1, a2⟩ := without_spec (i := i) hlm
  obtain ⟨b1, b2⟩ := without_spec (i := i) hl
  refine sep_unique a1 (sep_flat _ _ b1 fun x _ => ⟨(without_spec (i := x) hm).1, without_in hm⟩) ?_
  intro n
  rw [a2, memL_flatMap, memL_append]
  constructor
  · rintro ⟨h1, h2⟩
    obtain ⟨x, hx, hn⟩ := (b2 n).2 ⟨h1, fun h => h2 (.inl h)⟩
    exact ⟨x, hx, ((without_spec (i := x) hm).2 n).2 ⟨hn, fun h => h2 (.inr h)⟩⟩
  · rintro ⟨x, hx, hn⟩
    obtain ⟨h3, h4⟩ := ((without_spec (i := x) hm).2 n).1 hn
    obtain ⟨h5, h6⟩ := (b2 n).1 ⟨x, hx, h3⟩
    exact ⟨h5, fun h => h.elim h6 h4⟩
theorem flatF_len (F : Int × Int → List (Int × Int)) (k : Nat) (h : ∀ x, (F x).length ≤ k) : ∀ b : List (Int × Int), (b.flatMap F).length ≤ b.length * k
  | [] => by simp
  | x :: b => by
    rw [List.flatMap_cons, List.length_append, List.length_cons, Nat.add_mul]
    have := flatF_len F k h b
    have := h x
    omega
theorem flat_take_succ (F : Int × Int → List (Int × Int)) {b : List (Int × Int)} {j : Nat} {x : Int × Int} (hx : b[j]? = some x) : (b.take (j + 1)).flatMap F = (b.take j).flatMap F ++ F x := by
  rw [List.take_add_one, hx, List.flatMap_append]; simp
theorem chkStep_fold : ∀ (m : List (Int × Int)) (e : Int), e ≠ 0 → m.foldl chkStep e = e
  | [], e, _ => rfl
  | x :: m, e, h => by
    rw [List.foldl_cons, show chkStep e x = e from if_neg h]
    exact chkStep_fold m e h
theorem chkAll_append (l m : List (Int × Int)) : chkAll (l ++ m) = if chkAll l = 0 then chkAll m else chkAll l := by
  unfold chkAll
  rw [List.foldl_append]
  by_cases h : List.foldl chkStep 0 l = 0
  · rw [if_pos h, h]
  · rw [if_neg h]; exact chkStep_fold m _ h
theorem bothE_append_ne {i : Int × Int} {l : List (Int × Int)} (m : List (Int × Int)) (h : bothE i l ≠ 0) : bothE i (l ++ m) ≠ 0 := by
  unfold bothE at *
  by_cases hi : chk i = 0
  · rw [if_pos hi] at h ⊢
    rw [chkAll_append, if_neg h]; exact h
  · rw [if_neg hi]; exact hi
theorem bothE_append_zero {i : Int × Int} {l m : List (Int × Int)} (h : bothE i (l ++ m) = 0) : bothE i l = 0 ∧ chkAll m = 0 := by
  have hl : bothE i l = 0 := by
    by_cases hl : bothE i l = 0
    · exact hl
    · exact absurd h (bothE_append_ne m hl)
  obtain ⟨h1, h2⟩ := bothE_zero h
  rw [chkAll_append, if_pos (bothE_zero hl).2] at h2
  exact ⟨hl, h2⟩
theorem bothE_ok {x : Int × Int} {m : List (Int × Int)} (hx : Ok x) (hm : chkAll m = 0) : bothE x m = 0 := by
  unfold bothE
  rw [if_pos (chk_of_ok hx), hm]
end Go.Proofs.Ytidaklcinddghaa
