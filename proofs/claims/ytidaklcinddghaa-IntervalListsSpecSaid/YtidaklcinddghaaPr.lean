/- The plain law of the reference's add and Union. -/
import Derived.Test.YtidaklcinddghaaPq
namespace Go.Proofs.Ytidaklcinddghaa

def addL : Int × Int → List (Int × Int) → List (Int × Int)
  | i, [] => [i]
  | i, x :: u => if x.2 + 1 < i.1 then x :: addL i u else if i.2 + 1 < x.1 then i :: x :: u else addL (min i.1 x.1, max i.2 x.2) u

theorem addL_spec : ∀ (u : List (Int × Int)) (i : Int × Int), Sep u → i.1 ≤ i.2 →
    Sep (addL i u) ∧ (∀ c, c < i.1 → (∀ x ∈ u, c < x.1) → ∀ y ∈ addL i u, c < y.1) ∧ ∀ n, memL n (addL i u) ↔ inI n i ∨ memL n u
  | [], i, _, hi => by
    refine ⟨sep_cons.2 ⟨hi, fun _ h => (by cases h), sep_nil⟩, ?_, ?_⟩
    · intro c hc _ y hy
      rw [addL, List.mem_singleton] at hy
      rw [hy]; exact hc
    · intro n
      rw [addL, memL_cons]
  | x :: u, i, hs, hi => by
    obtain ⟨h1, h2, h3⟩ := sep_cons.1 hs
    rw [addL]
    split
    · rename_i t1
      obtain ⟨a1, a2, a3⟩ := addL_spec u i h3 hi
      refine ⟨sep_cons.2 ⟨h1, a2 _ t1 h2, a1⟩, ?_, ?_⟩
      · intro c hc hx y hy
        rcases List.mem_cons.1 hy with rfl | hy
        · exact hx _ (by simp)
        · exact a2 c hc (fun z hz => hx z (by simp [hz])) y hy
      · intro n
        rw [memL_cons, a3, memL_cons]
        constructor
        · rintro (h | h | h)
          · exact .inr (.inl h)
          · exact .inl h
          · exact .inr (.inr h)
        · rintro (h | h | h)
          · exact .inr (.inl h)
          · exact .inl h
          · exact .inr (.inr h)
    · split
      · rename_i t1 t2
        refine ⟨sep_cons.2 ⟨hi, ?_, hs⟩, ?_, fun n => memL_cons _ _ _⟩
        · intro y hy
          rcases List.mem_cons.1 hy with rfl | hy
          · exact t2
          · have := h2 y hy; omega
        · intro c hc hx y hy
          rcases List.mem_cons.1 hy with rfl | hy
          · exact hc
          · exact hx y hy
      · rename_i t1 t2
        obtain ⟨a1, a2, a3⟩ := addL_spec u (min i.1 x.1, max i.2 x.2) h3 (by dsimp only; omega)
        refine ⟨a1, ?_, ?_⟩
        · intro c hc hx y hy
          have := hx x (by simp)
          exact a2 c (by dsimp only; omega) (fun z hz => hx z (by simp [hz])) y hy
        · intro n
          rw [a3, memL_cons]
          have : inI n (min i.1 x.1, max i.2 x.2) ↔ inI n i ∨ inI n x := by unfold inI; dsimp only; omega
          rw [this, or_assoc]
theorem addL_len : ∀ (u : List (Int × Int)) (i : Int × Int), (addL i u).length ≤ u.length + 1
  | [], i => by simp [addL]
  | x :: u, i => by
    rw [addL]
    split
    · have := addL_len u i; simp; omega
    · split
      · simp
      · have := addL_len u (min i.1 x.1, max i.2 x.2); simp; omega
theorem addL_union {l : List (Int × Int)} {i : Int × Int} (hl : ∀ x ∈ l, Ok x) (hi : Ok i) : addL i (unionC l) = unionC (l ++ [i]) := by
  obtain ⟨h1, h2⟩ := unionC_spec (l := l) (fun x hx => (hl x hx).2.1)
  obtain ⟨a1, _, a3⟩ := addL_spec (unionC l) i h1 hi.2.1
  refine unionC_unique ?_ a1 ?_
  · intro x hx
    rcases List.mem_append.1 hx with h | h
    · exact (hl x h).2.1
    · rw [List.mem_singleton.1 h]; exact hi.2.1
  · intro n
    rw [a3, h2, memL_append, memL_cons]
    have := memL_nil n
    constructor
    · rintro (h | h)
      · exact .inr (.inl h)
      · exact .inl h
    · rintro (h | h | h)
      · exact .inr h
      · exact .inl h
      · exact absurd h this
theorem addL_left {i x : Int × Int} {u : List (Int × Int)} (h : x.2 + 1 < i.1) : addL i (x :: u) = x :: addL i u := by rw [addL, if_pos h]
theorem addL_stop {i x : Int × Int} {u : List (Int × Int)} (h : ¬ x.2 + 1 < i.1) (h' : i.2 + 1 < x.1) : addL i (x :: u) = i :: x :: u := by rw [addL, if_neg h, if_pos h']
theorem addL_join {i x : Int × Int} {u : List (Int × Int)} (h : ¬ x.2 + 1 < i.1) (h' : ¬ i.2 + 1 < x.1) : addL i (x :: u) = addL (min i.1 x.1, max i.2 x.2) u := by rw [addL, if_neg h, if_neg h']
theorem drop_cons_of {u : List (Int × Int)} {k : Nat} {x : Int × Int} (hx : u[k]? = some x) : u.drop k = x :: u.drop (k + 1) := by
  obtain ⟨h, rfl⟩ := List.getElem?_eq_some_iff.1 hx
  exact List.drop_eq_getElem_cons h
end Go.Proofs.Ytidaklcinddghaa
