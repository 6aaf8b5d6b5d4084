/- Plain laws on lists of intervals: a separated list is fixed by its integers; what joinL and woL make is separated and has the right integers. -/
import Derived.Test.YtidaklcinddghaaPl
namespace Go.Proofs.Ytidaklcinddghaa

def inI (n : Int) (x : Int × Int) : Prop := x.1 ≤ n ∧ n ≤ x.2
def memL (n : Int) (l : List (Int × Int)) : Prop := ∃ x ∈ l, inI n x
def Sep (l : List (Int × Int)) : Prop := (∀ x ∈ l, x.1 ≤ x.2) ∧ l.Pairwise (fun x y => x.2 + 1 < y.1)

theorem memL_nil (n : Int) : ¬ memL n [] := by rintro ⟨x, h, _⟩; cases h
theorem memL_cons (n : Int) (x : Int × Int) (l : List (Int × Int)) : memL n (x :: l) ↔ inI n x ∨ memL n l := by
  simp [memL]
theorem memL_append (n : Int) (l m : List (Int × Int)) : memL n (l ++ m) ↔ memL n l ∨ memL n m := by
  simp only [memL, List.mem_append]
  constructor
  · rintro ⟨x, h | h, hx⟩
    · exact .inl ⟨x, h, hx⟩
    · exact .inr ⟨x, h, hx⟩
  · rintro (⟨x, h, hx⟩ | ⟨x, h, hx⟩)
    · exact ⟨x, .inl h, hx⟩
    · exact ⟨x, .inr h, hx⟩
theorem memL_perm {l m : List (Int × Int)} (h : l.Perm m) (n : Int) : memL n l ↔ memL n m := by
  simp only [memL, h.mem_iff]

theorem sep_nil : Sep [] := ⟨fun _ h => (by cases h), List.Pairwise.nil⟩
theorem sep_cons {x : Int × Int} {l : List (Int × Int)} : Sep (x :: l) ↔ x.1 ≤ x.2 ∧ (∀ y ∈ l, x.2 + 1 < y.1) ∧ Sep l := by
  simp only [Sep, List.mem_cons, forall_eq_or_imp, List.pairwise_cons]
  constructor
  · rintro ⟨⟨a, b⟩, c, d⟩; exact ⟨a, c, b, d⟩
  · rintro ⟨a, c, b, d⟩; exact ⟨⟨a, b⟩, c, d⟩
theorem sep_above {x : Int × Int} {l : List (Int × Int)} (h : Sep (x :: l)) {n : Int} (hn : memL n l) : x.2 + 1 < n := by
  obtain ⟨y, hy, h1, _⟩ := hn
  have := (sep_cons.1 h).2.1 y hy
  unfold inI at *
  omega
theorem sep_first {x : Int × Int} {l : List (Int × Int)} (h : Sep (x :: l)) {n : Int} (hn : memL n (x :: l)) : x.1 ≤ n := by
  have := (sep_cons.1 h).1
  rcases (memL_cons n x l).1 hn with hn | hn
  · exact hn.1
  · have := sep_above h hn; omega

/-- A separated list is fixed by its integers. -/
theorem sep_unique : ∀ {a b : List (Int × Int)}, Sep a → Sep b → (∀ n, memL n a ↔ memL n b) → a = b
  | [], [], _, _, _ => rfl
  | [], y :: b, _, hb, h => by
    have hy := (sep_cons.1 hb).1
    exact absurd ((h y.1).2 ⟨y, by simp, Int.le_refl _, hy⟩) (memL_nil _)
  | x :: a, [], ha, _, h => by
    have hx := (sep_cons.1 ha).1
    exact absurd ((h x.1).1 ⟨x, by simp, Int.le_refl _, hx⟩) (memL_nil _)
  | x :: a, y :: b, ha, hb, h => by
    have hx := (sep_cons.1 ha).1
    have hy := (sep_cons.1 hb).1
    have e1 : x.1 = y.1 := by
      have p := sep_first hb ((h x.1).1 ⟨x, by simp, Int.le_refl _, hx⟩)
      have q := sep_first ha ((h y.1).2 ⟨y, by simp, Int.le_refl _, hy⟩)
      omega
    have e2 : x.2 = y.2 := by
      rcases Int.lt_trichotomy x.2 y.2 with hlt | he | hlt
      · have hm : memL (x.2 + 1) (x :: a) := (h _).2 ⟨y, by simp, by unfold inI; omega⟩
        rcases (memL_cons _ _ _).1 hm with hm | hm
        · unfold inI at hm; omega
        · have := sep_above ha hm; omega
      · exact he
      · have hm : memL (y.2 + 1) (y :: b) := (h _).1 ⟨x, by simp, by unfold inI; omega⟩
        rcases (memL_cons _ _ _).1 hm with hm | hm
        · unfold inI at hm; omega
        · have := sep_above hb hm; omega
    have exy : x = y := Prod.ext e1 e2
    subst exy
    rw [sep_unique (sep_cons.1 ha).2.2 (sep_cons.1 hb).2.2 (fun n => ?_)]
    constructor
    · intro hn
      rcases (memL_cons _ _ _).1 ((h n).1 ((memL_cons _ _ _).2 (.inr hn))) with h1 | h1
      · have := sep_above ha hn; unfold inI at h1; omega
      · exact h1
    · intro hn
      rcases (memL_cons _ _ _).1 ((h n).2 ((memL_cons _ _ _).2 (.inr hn))) with h1 | h1
      · have := sep_above hb hn; unfold inI at h1; omega
      · exact h1

theorem joinGo_spec : ∀ (r : List (Int × Int)) (x : Int × Int), x.1 ≤ x.2 → (∀ y ∈ r, x.1 ≤ y.1 ∧ y.1 ≤ y.2) → r.Pairwise (fun x y => x.1 ≤ y.1) →
    Sep (joinGo x r) ∧ (∀ y ∈ joinGo x r, x.1 ≤ y.1) ∧ ∀ n, memL n (joinGo x r) ↔ inI n x ∨ memL n r
  | [], x, hx, _, _ => by
    refine ⟨sep_cons.2 ⟨hx, fun _ h => (by cases h), sep_nil⟩, fun y hy => ?_, fun n => ?_⟩
    · simp [joinGo] at hy; subst hy; exact Int.le_refl _
    · rw [joinGo, memL_cons]
  | y :: r, x, hx, hr, hp => by
    have hy := hr y (by simp)
    have hp' := List.pairwise_cons.1 hp
    by_cases h : y.1 ≤ x.2 + 1
    · rw [joinGo_hit h]
      obtain ⟨h1, h2, h3⟩ := joinGo_spec r (x.1, max x.2 y.2) (by dsimp only; omega) (fun z hz => hr z (by simp [hz])) hp'.2
      refine ⟨h1, h2, fun n => ?_⟩
      rw [h3, memL_cons]
      unfold inI
      dsimp only
      constructor
      · rintro (h4 | h4)
        · by_cases h5 : n ≤ x.2
          · exact .inl ⟨h4.1, h5⟩
          · exact .inr (.inl ⟨by omega, by omega⟩)
        · exact .inr (.inr h4)
      · rintro (h4 | h4 | h4)
        · exact .inl ⟨by omega, by omega⟩
        · exact .inl ⟨by omega, by omega⟩
        · exact .inr h4
    · rw [joinGo_miss h]
      obtain ⟨h1, h2, h3⟩ := joinGo_spec r y hy.2 (fun z hz => ⟨hp'.1 z hz, (hr z (by simp [hz])).2⟩) hp'.2
      refine ⟨sep_cons.2 ⟨hx, fun z hz => ?_, h1⟩, fun z hz => ?_, fun n => ?_⟩
      · have := h2 z hz; omega
      · rcases List.mem_cons.1 hz with rfl | hz
        · exact Int.le_refl _
        · have := h2 z hz; omega
      · rw [memL_cons, memL_cons]
        show inI n x ∨ memL n (joinGo y r) ↔ _
        rw [h3]

theorem joinL_spec {l : List (Int × Int)} (hok : ∀ x ∈ l, x.1 ≤ x.2) (hp : l.Pairwise (fun x y => x.1 ≤ y.1)) : Sep (joinL l) ∧ ∀ n, memL n (joinL l) ↔ memL n l := by
  cases l with
  | nil => exact ⟨sep_nil, fun n => Iff.rfl⟩
  | cons x r =>
    have hp' := List.pairwise_cons.1 hp
    obtain ⟨h1, _, h3⟩ := joinGo_spec r x (hok x (by simp)) (fun y hy => ⟨hp'.1 y hy, hok y (by simp [hy])⟩) hp'.2
    exact ⟨h1, fun n => by rw [memL_cons]; exact h3 n⟩

theorem woFin_spec (lo hi : Int) : Sep (woFin lo hi) ∧ (∀ y ∈ woFin lo hi, lo ≤ y.1) ∧ ∀ n, memL n (woFin lo hi) ↔ lo ≤ n ∧ n ≤ hi := by
  unfold woFin
  by_cases h : lo ≤ hi
  · rw [if_pos h]
    refine ⟨sep_cons.2 ⟨h, fun _ h => (by cases h), sep_nil⟩, fun y hy => ?_, fun n => ?_⟩
    · simp at hy; subst hy; exact Int.le_refl _
    · rw [memL_cons]
      constructor
      · rintro (h | h)
        · exact h
        · exact absurd h (memL_nil _)
      · exact .inl
  · rw [if_neg h]
    exact ⟨sep_nil, fun _ h => (by cases h), fun n => ⟨fun h => absurd h (memL_nil _), fun h => by omega⟩⟩

theorem woL_spec (hi : Int) : ∀ (u : List (Int × Int)) (lo : Int), Sep u → Sep (woL hi lo u) ∧ (∀ y ∈ woL hi lo u, lo ≤ y.1) ∧ ∀ n, memL n (woL hi lo u) ↔ (lo ≤ n ∧ n ≤ hi) ∧ ¬ memL n u
  | [], lo, _ => by
    obtain ⟨h1, h2, h3⟩ := woFin_spec lo hi
    exact ⟨h1, h2, fun n => by rw [woL, h3]; exact ⟨fun h => ⟨h, memL_nil _⟩, fun h => h.1⟩⟩
  | x :: u, lo, hs => by
    have hx := (sep_cons.1 hs).1
    have hu := (sep_cons.1 hs).2.2
    by_cases t1 : x.2 < lo
    · rw [woL_skip t1]
      obtain ⟨h1, h2, h3⟩ := woL_spec hi u lo hu
      refine ⟨h1, h2, fun n => ?_⟩
      rw [h3, memL_cons]
      unfold inI
      constructor
      · rintro ⟨a, b⟩; exact ⟨a, fun h => h.elim (fun h => by omega) b⟩
      · rintro ⟨a, b⟩; exact ⟨a, fun h => b (.inr h)⟩
    · by_cases t2 : hi < x.1
      · rw [woL_stop t1 t2]
        obtain ⟨h1, h2, h3⟩ := woFin_spec lo hi
        refine ⟨h1, h2, fun n => ?_⟩
        rw [h3, memL_cons]
        constructor
        · intro a
          refine ⟨a, fun h => ?_⟩
          have := sep_first hs ((memL_cons _ _ _).2 h)
          omega
        · exact fun a => a.1
      · obtain ⟨h1, h2, h3⟩ := woL_spec hi u (x.2 + 1) hu
        have hm : ∀ n, (x.2 + 1 ≤ n ∧ n ≤ hi) ∧ ¬ memL n u ↔ (x.1 ≤ n ∧ n ≤ hi) ∧ ¬ memL n (x :: u) := by
          intro n
          rw [memL_cons]
          unfold inI
          constructor
          · rintro ⟨a, b⟩; exact ⟨by omega, fun h => h.elim (fun h => by omega) b⟩
          · rintro ⟨a, b⟩
            refine ⟨?_, fun h => b (.inr h)⟩
            by_cases h : n ≤ x.2
            · exact absurd (.inl ⟨a.1, h⟩) b
            · omega
        by_cases t3 : lo < x.1
        · rw [woL_take t1 t2 t3]
          refine ⟨sep_cons.2 ⟨by dsimp only; omega, fun y hy => by have := h2 y hy; dsimp only; omega, h1⟩, fun y hy => ?_, fun n => ?_⟩
          · rcases List.mem_cons.1 hy with rfl | hy
            · exact Int.le_refl _
            · have := h2 y hy; omega
          · rw [memL_cons, h3, hm]
            have hf : memL n (x :: u) → x.1 ≤ n := sep_first hs
            unfold inI
            dsimp only
            constructor
            · rintro (h | ⟨a, b⟩)
              · exact ⟨by omega, fun h' => by have := hf h'; omega⟩
              · exact ⟨by omega, b⟩
            · rintro ⟨a, b⟩
              by_cases h : n ≤ x.1 - 1
              · exact .inl ⟨a.1, h⟩
              · exact .inr ⟨by omega, b⟩
        · rw [woL_pass t1 t2 t3]
          refine ⟨h1, fun y hy => by have := h2 y hy; omega, fun n => ?_⟩
          rw [h3, hm]
          constructor
          · rintro ⟨a, b⟩
            refine ⟨⟨?_, a.2⟩, b⟩
            by_cases h : lo ≤ n
            · exact h
            · exact absurd ((memL_cons _ _ _).2 (.inl ⟨a.1, by omega⟩)) b
          · rintro ⟨a, b⟩; exact ⟨⟨by omega, a.2⟩, b⟩

/-! ### A sort of one's own, so that the union is a function -/
def insLo (x : Int × Int) : List (Int × Int) → List (Int × Int)
  | [] => [x]
  | y :: r => if x.1 ≤ y.1 then x :: y :: r else y :: insLo x r
def sortLo : List (Int × Int) → List (Int × Int)
  | [] => []
  | x :: r => insLo x (sortLo r)
theorem insLo_perm (x : Int × Int) : ∀ l : List (Int × Int), (insLo x l).Perm (x :: l)
  | [] => List.Perm.refl _
  | y :: r => by
    unfold insLo
    split
    · exact List.Perm.refl _
    · exact ((insLo_perm x r).cons y).trans (List.Perm.swap x y r)
theorem insLo_sorted (x : Int × Int) : ∀ l : List (Int × Int), l.Pairwise (fun x y => x.1 ≤ y.1) → (insLo x l).Pairwise (fun x y => x.1 ≤ y.1)
  | [], _ => List.pairwise_singleton _ _
  | y :: r, h => by
    have h' := List.pairwise_cons.1 h
    unfold insLo
    split
    · rename_i hxy
      refine List.pairwise_cons.2 ⟨fun z hz => ?_, h⟩
      rcases List.mem_cons.1 hz with rfl | hz
      · exact hxy
      · have := h'.1 z hz; omega
    · rename_i hxy
      refine List.pairwise_cons.2 ⟨fun z hz => ?_, insLo_sorted x r h'.2⟩
      rcases List.mem_cons.1 ((insLo_perm x r).mem_iff.1 hz) with rfl | hz
      · omega
      · exact h'.1 z hz
theorem sortLo_perm : ∀ l : List (Int × Int), (sortLo l).Perm l
  | [] => List.Perm.refl _
  | x :: r => (insLo_perm x (sortLo r)).trans ((sortLo_perm r).cons x)
theorem sortLo_sorted : ∀ l : List (Int × Int), (sortLo l).Pairwise (fun x y => x.1 ≤ y.1)
  | [] => List.Pairwise.nil
  | x :: r => insLo_sorted x _ (sortLo_sorted r)

/-- The separated list of the integers of valid intervals. -/
def unionC (l : List (Int × Int)) : List (Int × Int) := joinL (sortLo l)
theorem unionC_spec {l : List (Int × Int)} (hok : ∀ x ∈ l, x.1 ≤ x.2) : Sep (unionC l) ∧ ∀ n, memL n (unionC l) ↔ memL n l := by
  obtain ⟨h1, h2⟩ := joinL_spec (l := sortLo l) (fun x hx => hok x ((sortLo_perm l).mem_iff.1 hx)) (sortLo_sorted l)
  exact ⟨h1, fun n => (h2 n).trans (memL_perm (sortLo_perm l) n)⟩
theorem joinL_eq {l l' : List (Int × Int)} (hok : ∀ x ∈ l, x.1 ≤ x.2) (hp : l'.Perm l) (hs : l'.Pairwise (fun x y => x.1 ≤ y.1)) : joinL l' = unionC l := by
  obtain ⟨h1, h2⟩ := joinL_spec (l := l') (fun x hx => hok x (hp.mem_iff.1 hx)) hs
  obtain ⟨h3, h4⟩ := unionC_spec hok
  exact sep_unique h1 h3 fun n => by rw [h2, h4, memL_perm hp]
/-- A separated list with the integers of l is its union. -/
theorem unionC_unique {l u : List (Int × Int)} (hok : ∀ x ∈ l, x.1 ≤ x.2) (hs : Sep u) (h : ∀ n, memL n u ↔ memL n l) : u = unionC l := by
  obtain ⟨h3, h4⟩ := unionC_spec hok
  exact sep_unique hs h3 fun n => by rw [h, h4]

/-- The error of an interval and a list. -/
def bothE (i : Int × Int) (l : List (Int × Int)) : Int := if chk i = 0 then chkAll l else chk i
theorem bothE_zero {i : Int × Int} {l : List (Int × Int)} (h : bothE i l = 0) : chk i = 0 ∧ chkAll l = 0 := by
  unfold bothE at h
  by_cases h1 : chk i = 0
  · rw [if_pos h1] at h; exact ⟨h1, h⟩
  · rw [if_neg h1] at h; exact absurd h h1
/-- The value of Within. -/
def withinB (x y : Int × Int) : Bool := decide (chkAll [x, y] = 0 ∧ y.1 ≤ x.1 ∧ x.2 ≤ y.2)
/-- What Union, Inside and Without compute. -/
def unionR (l : List (Int × Int)) : List (Int × Int) := if chkAll l = 0 then unionC l else []
def insideR (i : Int × Int) (l : List (Int × Int)) : Bool := if bothE i l = 0 then (unionC l).any (withinB i) else false
def withoutR (i : Int × Int) (l : List (Int × Int)) : List (Int × Int) := if bothE i l = 0 then woL i.2 i.1 (unionC l) else []
theorem ok_le {l : List (Int × Int)} (h : chkAll l = 0) : ∀ x ∈ l, x.1 ≤ x.2 := fun x hx => (ok_of_chkAll h x hx).2.1
end Go.Proofs.Ytidaklcinddghaa
