/- Plain laws for the interval laws. -/
import Derived.Test.YtidaklcinddghaaPm
namespace Go.Proofs.Ytidaklcinddghaa

theorem sep_mem_ok {l u : List (Int × Int)} (hok : ∀ x ∈ l, Ok x) (hs : Sep u) (h : ∀ n, memL n u → memL n l) : ∀ x ∈ u, Ok x := by
  intro x hx
  have h1 := hs.1 x hx
  obtain ⟨y, hy, hy1⟩ := h x.1 ⟨x, hx, Int.le_refl _, h1⟩
  obtain ⟨z, hz, hz1⟩ := h x.2 ⟨x, hx, h1, Int.le_refl _⟩
  have oy := hok y hy
  have oz := hok z hz
  unfold Ok inI at *
  omega
theorem unionC_ok {l : List (Int × Int)} (hok : ∀ x ∈ l, Ok x) : ∀ x ∈ unionC l, Ok x := by
  obtain ⟨h1, h2⟩ := unionC_spec (l := l) (fun x hx => (hok x hx).2.1)
  exact sep_mem_ok hok h1 fun n hn => (h2 n).1 hn
theorem unionC_len (l : List (Int × Int)) : (unionC l).length ≤ l.length := by
  have go : ∀ (r : List (Int × Int)) (x : Int × Int), (joinGo x r).length ≤ r.length + 1 := by
    intro r
    induction r with
    | nil => intro x; simp [joinGo]
    | cons y r ih =>
      intro x
      unfold joinGo
      split
      · exact Nat.le_trans (ih _) (by simp)
      · simp; exact ih _
  have := (sortLo_perm l).length_eq
  unfold unionC
  cases h : sortLo l with
  | nil => simp [joinL]
  | cons x r => rw [h] at this; simp only [joinL]; rw [← this]; exact go r x
theorem unionC_idem {l : List (Int × Int)} (hok : ∀ x ∈ l, Ok x) : unionC (unionC l) = unionC l := by
  obtain ⟨h1, h2⟩ := unionC_spec (l := l) (fun x hx => (hok x hx).2.1)
  exact (unionC_unique (fun x hx => (unionC_ok hok x hx).2.1) h1 (fun n => Iff.rfl)).symm
theorem unionC_same {l m : List (Int × Int)} (hl : ∀ x ∈ l, Ok x) (hm : ∀ x ∈ m, Ok x) (h : ∀ n, memL n m ↔ memL n l) : unionC m = unionC l := by
  obtain ⟨h1, h2⟩ := unionC_spec (l := m) (fun x hx => (hm x hx).2.1)
  exact unionC_unique (fun x hx => (hl x hx).2.1) h1 fun n => (h2 n).trans (h n)
theorem memL_of_sub {l m : List (Int × Int)} (h : ∀ x, x ∈ m ↔ x ∈ l) (n : Int) : memL n m ↔ memL n l := by
  simp only [memL, h]
end Go.Proofs.Ytidaklcinddghaa
