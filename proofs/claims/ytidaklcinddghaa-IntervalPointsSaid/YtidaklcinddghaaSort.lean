/- Bridges between a slice that a call owns and the sort's own words for a row of k cells an element. -/
import Derived.Shelf.SlSortCmp.WholeK
import Derived.Shelf.SlSortCmp.NoneTotal
import Derived.Test.YtidaklcinddghaaMem
namespace Go.Proofs.Ytidaklcinddghaa
open Go.RowKit Go.Shelf Go.Sort

section
variable {α : Type} [Inhabited α]

omit [Inhabited α] in
theorem flatMap_len (enc : α → List Value) (k : Nat) (hk : ∀ x, (enc x).length = k) (l : List α) : (l.flatMap enc).length = l.length * k := by
  induction l with
  | nil => simp
  | cons x l ih => simp [List.flatMap_cons, hk, ih, Nat.succ_mul]; omega

omit [Inhabited α] in
theorem flatMap_get (enc : α → List Value) (k : Nat) (hk : ∀ x, (enc x).length = k) (l : List α) (i j : Nat) (x : α) (hi : l[i]? = some x) (hj : j < k) : (l.flatMap enc)[i * k + j]? = (enc x)[j]? := by
  induction l generalizing i with
  | nil => simp at hi
  | cons y l ih =>
    rw [List.flatMap_cons]
    cases i with
    | zero =>
      simp at hi; subst hi
      rw [List.getElem?_append_left (by rw [hk]; omega)]; simp
    | succ i =>
      rw [List.getElem?_append_right (by rw [hk, Nat.succ_mul]; omega), hk]
      have : (i + 1) * k + j - k = i * k + j := by rw [Nat.succ_mul]; omega
      rw [this]
      exact ih i (by simpa using hi)

theorem flatK_toList (enc : α → List Value) (k : Nat) (hk : ∀ x, (enc x).length = k) (l : List α) : (flatK enc k l.toArray).toList = l.flatMap enc := by
  apply List.ext_getElem?
  intro t
  by_cases h : t < l.length * k
  · have k0 : 0 < k := by rcases Nat.eq_zero_or_pos k with h0 | h0; · subst h0; simp at h
                          · exact h0
    have hd : t / k < l.length := (Nat.div_lt_iff_lt_mul k0).2 h
    have hm : t % k < k := Nat.mod_lt _ k0
    have e := flatMap_get enc k hk l (t / k) (t % k) l[t / k] (by simp [hd]) hm
    rw [Nat.mul_comm, Nat.div_add_mod] at e
    rw [e]
    have hs : t < (flatK enc k l.toArray).size := by simpa using h
    have g := get_flatK enc k l.toArray t (by simpa using h)
    rw [getElem!_pos _ t hs] at g
    rw [Array.getElem?_toList, Array.getElem?_eq_getElem hs, g, getElem!_pos l.toArray (t / k) (by simpa using hd), getElem!_pos _ (t % k) (by rw [hk]; exact hm)]
    simp [hk, hm]
  · rw [List.getElem?_eq_none (by simp; omega), List.getElem?_eq_none (by rw [flatMap_len enc k hk]; omega)]

theorem ownsRow_holdsK {w : World} {base : Nat} {e : TypeId} {k g n cap : Nat} {enc : α → List Value} (hk : ∀ x, (enc x).length = k) {l : List α}
    (h : w.ownsRow base e k (.slice (some ⟨g, 0, none⟩) n cap) l.length (l.flatMap enc)) : HoldsK enc k w g 0 l.toArray := by
  intro j hj
  obtain ⟨_, h2⟩ := h
  rcases h2 with ⟨h2, _⟩ | ⟨g', cap', cur, hv, hb, hg, hn, hm, hs, ht⟩
  · cases h2
  · obtain ⟨rfl⟩ : g = g' := by injection hv with h; injection h with h; injection h
    rw [← flatK_toList enc k hk] at ht
    have hj' : j < l.length * k := by simpa using hj
    constructor
    · rw [Nat.zero_add, cell_of_row w g j cur e (0, 0) hg, id, getElem!_pos _ j hj]
      have := congrArg (fun L : List Value => L[j]?) ht
      simp only [List.getElem?_take, if_pos hj', Array.getElem?_toList] at this
      rw [this, Array.getElem?_eq_getElem hj]
    · simp [World.frozen?, hg]

theorem ownsRow_sorted {w : World} {base : Nat} {e : TypeId} {k g n cap : Nat} {enc : α → List Value} (hk : ∀ x, (enc x).length = k) {l : List α} {d' : Array α} (hd : d'.size = l.length)
    (h : w.ownsRow base e k (.slice (some ⟨g, 0, none⟩) n cap) l.length (l.flatMap enc)) (m : Nat) (os : Array Obj) :
    (sortWorldK enc k w g 0 m d' os).ownsRow base e k (.slice (some ⟨g, 0, none⟩) n cap) d'.toList.length (d'.toList.flatMap enc) ∧ w.grownBy (sortWorldK enc k w g 0 m d' os) (some g) := by
  obtain ⟨h1, h2⟩ := h
  rcases h2 with ⟨h2, _⟩ | ⟨g', cap', cur, hv, hb, hg, hn, hm, hs, ht⟩
  · cases h2
  · obtain ⟨rfl⟩ : g = g' := by injection hv with h; injection h with h; injection h
    obtain ⟨rfl⟩ : cap = cap' := by injection hv
    obtain ⟨rfl⟩ : n = l.length := by injection hv
    have hlt : g < w.heap.size := (Array.getElem?_eq_some_iff.1 hg).1
    have hF : (flatK enc k d').toList = d'.toList.flatMap enc := by rw [← flatK_toList enc k hk]
    have hblk : (sortWorldK enc k w g 0 m d' os).heap[g]? = some (.cells (putCells id 0 (flatK enc k d') cur) e (0, 0)) := by
      unfold sortWorldK
      rw [heap_grow_old _ _ (by simp [putRowK]; exact hlt)]
      show ((w.heap.modify g (onCells (putCells id 0 (flatK enc k d'))))[g]?) = _
      simp [Array.getElem?_modify, hg, onCells]
    refine ⟨⟨by rw [flatMap_len enc k hk], .inr ⟨g, cap, _, by simp [hd], hb, hblk, by simp [hd]; exact hn, hm, by simp [putCells, hs], ?_⟩⟩, rfl, rfl, rfl, ?_, ?_⟩
    · rw [← hF]
      apply List.ext_getElem?
      intro t
      rw [List.getElem?_take]
      have hsz : (flatK enc k d').size = d'.size * k := size_flatK enc k d'
      have hle : d'.size * k ≤ cap * k := Nat.mul_le_mul_right k (by omega)
      split
      · rename_i ht'
        simp only [Array.length_toList] at ht'
        have h3 : t < cur.size := by omega
        simp [putCells, h3, hsz, ht', getElem!_pos]
      · rename_i ht'
        simp only [Array.length_toList] at ht'
        rw [List.getElem?_eq_none (by simp; omega)]
    · simp [sortWorldK, putRowK]
    · intro i hi hne
      unfold sortWorldK
      rw [heap_grow_old _ _ (by simp [putRowK]; exact hi)]
      show ((w.heap.modify g (onCells (putCells id 0 (flatK enc k d'))))[i]?) = _
      rw [Array.getElem?_modify, if_neg (fun e => hne (by rw [e]))]
end
end Go.Proofs.Ytidaklcinddghaa
