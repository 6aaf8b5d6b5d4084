/- Plain words: truth as a Bool, lists of integers as sets, their order. -/
namespace Go.Proofs.YtbmdfnifbimfmaaGreatDoor

/-- A statement's truth. -/
noncomputable def bOf (p : Prop) : Bool := @decide p (Classical.propDecidable p)
theorem bOf_iff {p : Prop} : bOf p = true ↔ p := by unfold bOf; exact @decide_eq_true_iff p (Classical.propDecidable p)
theorem bOf_true {p : Prop} (h : p) : bOf p = true := bOf_iff.2 h
theorem bOf_false {p : Prop} (h : ¬ p) : bOf p = false := by
  cases e : bOf p with
  | false => rfl
  | true => exact absurd (bOf_iff.1 e) h
theorem bOf_congr {p q : Prop} (h : p ↔ q) : bOf p = bOf q := by rw [Bool.eq_iff_iff, bOf_iff, bOf_iff]; exact h
theorem bOf_false_iff {p : Prop} : bOf p = false ↔ ¬ p := by
  constructor
  · intro h hp; rw [bOf_true hp] at h; cases h
  · exact bOf_false

theorem drop_cons {α : Type} {l : List α} {k : Nat} {x : α} (h : l[k]? = some x) : l.drop k = x :: l.drop (k + 1) := by
  obtain ⟨hk, rfl⟩ := List.getElem?_eq_some_iff.1 h
  exact List.drop_eq_getElem_cons hk
theorem take_snoc {α : Type} {l : List α} {k : Nat} {x : α} (h : l[k]? = some x) : l.take (k + 1) = l.take k ++ [x] := by
  rw [List.take_add_one, h]; rfl
theorem get_some {α : Type} {l : List α} {k : Nat} (h : k < l.length) : ∃ x, l[k]? = some x := ⟨l[k], List.getElem?_eq_getElem h⟩

/-- Strictly increasing. -/
abbrev Inc (l : List Int) : Prop := l.Pairwise (· < ·)
/-- A valid set. -/
def Valid (l : List Int) : Prop := (∀ x ∈ l, 0 ≤ x ∧ x ≤ 1023) ∧ Inc l
def ValidAll (L : List (List Int)) : Prop := ∀ l ∈ L, Valid l

theorem valid_take_succ {l : List Int} {k : Nat} {x : Int} (hx : l[k]? = some x) (h : Valid (l.take k)) (h0 : 0 ≤ x) (h1 : x ≤ 1023) (h2 : ∀ y, 0 < k → l[k - 1]? = some y → y < x) : Valid (l.take (k + 1)) := by
  rw [take_snoc hx]
  refine ⟨fun y hy => ?_, List.pairwise_append.2 ⟨h.2, List.pairwise_singleton _ _, fun y hy z hz => ?_⟩⟩
  · rcases List.mem_append.1 hy with hy | hy
    · exact h.1 y hy
    · simp at hy; subst hy; exact ⟨h0, h1⟩
  · simp at hz
    subst hz
    obtain ⟨i, hi, rfl⟩ := List.getElem_of_mem hy
    have hi' : i < k := by rw [List.length_take] at hi; omega
    have hk : k < l.length := (List.getElem?_eq_some_iff.1 hx).1
    have hl := h2 (l[k - 1]'(by omega)) (by omega) (List.getElem?_eq_getElem _)
    rw [List.getElem_take]
    by_cases e : i = k - 1
    · subst e; exact hl
    · have hp := List.pairwise_iff_getElem.1 h.2 i (k - 1) hi (by rw [List.length_take]; omega) (by omega)
      rw [List.getElem_take, List.getElem_take] at hp
      exact Int.lt_trans hp hl
theorem valid_at {l : List Int} (h : Valid l) {k : Nat} {x : Int} (hx : l[k]? = some x) : 0 ≤ x ∧ x ≤ 1023 ∧ ∀ y, 0 < k → l[k - 1]? = some y → y < x := by
  have hm := h.1 x (List.mem_of_getElem? hx)
  refine ⟨hm.1, hm.2, fun y h0 hy => ?_⟩
  obtain ⟨hk, rfl⟩ := List.getElem?_eq_some_iff.1 hx
  obtain ⟨hk', rfl⟩ := List.getElem?_eq_some_iff.1 hy
  exact List.pairwise_iff_getElem.1 h.2 (k - 1) k hk' hk (by omega)

/-- The lexicographic comparison. -/
def cmpL : List Int → List Int → Int
  | [], [] => 0
  | [], _ :: _ => -1
  | _ :: _, [] => 1
  | x :: a, y :: b => if x < y then -1 else if y < x then 1 else cmpL a b
/-- The order of sets. -/
def cmpS (a b : List Int) : Int := if a.length < b.length then -1 else if b.length < a.length then 1 else cmpL a b

theorem cmpL_lt {a b : List Int} {k : Nat} {x y : Int} (hx : a[k]? = some x) (hy : b[k]? = some y) (h : x < y) : cmpL (a.drop k) (b.drop k) = -1 := by
  rw [drop_cons hx, drop_cons hy, cmpL, if_pos h]
theorem cmpL_gt {a b : List Int} {k : Nat} {x y : Int} (hx : a[k]? = some x) (hy : b[k]? = some y) (h : y < x) : cmpL (a.drop k) (b.drop k) = 1 := by
  rw [drop_cons hx, drop_cons hy, cmpL, if_neg (by omega), if_pos h]
theorem cmpL_eq {a b : List Int} {k : Nat} {x : Int} (hx : a[k]? = some x) (hy : b[k]? = some x) : cmpL (a.drop k) (b.drop k) = cmpL (a.drop (k + 1)) (b.drop (k + 1)) := by
  rw [drop_cons hx, drop_cons hy, cmpL, if_neg (Int.lt_irrefl _), if_neg (Int.lt_irrefl _)]
theorem cmpL_short {a b : List Int} {k : Nat} (hk : k < a.length) (h : b.length ≤ k) : cmpL (a.drop k) (b.drop k) = 1 := by
  obtain ⟨x, hx⟩ := get_some hk
  rw [drop_cons hx, List.drop_eq_nil_of_le h, cmpL]
theorem cmpL_end {a b : List Int} (h : a.length < b.length) : cmpL (a.drop a.length) (b.drop a.length) = -1 := by
  obtain ⟨x, hx⟩ := get_some h
  rw [List.drop_length, drop_cons hx, cmpL]
theorem cmpL_same {a b : List Int} (h : b.length ≤ a.length) : cmpL (a.drop a.length) (b.drop a.length) = 0 := by
  rw [List.drop_length, List.drop_eq_nil_of_le h, cmpL]

theorem cmpL_zero : ∀ {a b : List Int}, cmpL a b = 0 ↔ a = b
  | [], [] => by simp [cmpL]
  | [], _ :: _ => by simp [cmpL]
  | _ :: _, [] => by simp [cmpL]
  | x :: a, y :: b => by
    rw [cmpL]
    by_cases h1 : x < y
    · rw [if_pos h1]; constructor
      · intro h; cases h
      · intro h; injection h with h; omega
    · by_cases h2 : y < x
      · rw [if_neg h1, if_pos h2]; constructor
        · intro h; cases h
        · intro h; injection h with h; omega
      · rw [if_neg h1, if_neg h2, cmpL_zero]
        have : x = y := by omega
        subst this
        simp
theorem cmpL_neg : ∀ {a b : List Int}, cmpL a b < 0 ↔ 0 < cmpL b a
  | [], [] => by simp [cmpL]
  | [], _ :: _ => by simp [cmpL]
  | _ :: _, [] => by simp [cmpL]
  | x :: a, y :: b => by
    rw [cmpL, cmpL]
    by_cases h1 : x < y
    · rw [if_pos h1, if_neg (by omega), if_pos h1]; decide
    · by_cases h2 : y < x
      · rw [if_neg h1, if_pos h2, if_pos h2]; decide
      · rw [if_neg h1, if_neg h2, if_neg h2, if_neg h1]; exact cmpL_neg
theorem cmpL_trans : ∀ {a b c : List Int}, cmpL a b < 0 → cmpL b c < 0 → cmpL a c < 0
  | [], [], _, h, _ => by simp [cmpL] at h
  | [], _ :: _, [], _, h => by simp [cmpL] at h
  | [], _ :: _, _ :: _, _, _ => by simp [cmpL]
  | _ :: _, [], _, h, _ => by simp [cmpL] at h
  | _ :: _, _ :: _, [], _, h => by simp [cmpL] at h
  | x :: a, y :: b, z :: c, h1, h2 => by
    rw [cmpL] at h1 h2 ⊢
    by_cases hxy : x < y
    · by_cases hyz : y < z
      · rw [if_pos (by omega)]; decide
      · by_cases hzy : z < y
        · rw [if_neg hyz, if_pos hzy] at h2; omega
        · rw [if_pos (by omega)]; decide
    · by_cases hyx : y < x
      · rw [if_neg hxy, if_pos hyx] at h1; omega
      · rw [if_neg hxy, if_neg hyx] at h1
        have : x = y := by omega
        subst this
        by_cases hyz : x < z
        · rw [if_pos hyz]; decide
        · by_cases hzy : z < x
          · rw [if_neg hyz, if_pos hzy] at h2; omega
          · rw [if_neg hyz, if_neg hzy] at h2 ⊢
            exact cmpL_trans h1 h2

theorem cmpS_zero {a b : List Int} : cmpS a b = 0 ↔ a = b := by
  unfold cmpS
  by_cases h1 : a.length < b.length
  · rw [if_pos h1]; constructor
    · intro h; cases h
    · intro h; rw [h] at h1; omega
  · by_cases h2 : b.length < a.length
    · rw [if_neg h1, if_pos h2]; constructor
      · intro h; cases h
      · intro h; rw [h] at h2; omega
    · rw [if_neg h1, if_neg h2, cmpL_zero]
theorem cmpS_neg {a b : List Int} : cmpS a b < 0 ↔ 0 < cmpS b a := by
  unfold cmpS
  by_cases h1 : a.length < b.length
  · rw [if_pos h1, if_neg (by omega), if_pos h1]; decide
  · by_cases h2 : b.length < a.length
    · rw [if_neg h1, if_pos h2, if_pos h2]; decide
    · rw [if_neg h1, if_neg h2, if_neg h2, if_neg h1]; exact cmpL_neg
theorem cmpS_trans {a b c : List Int} (h1 : cmpS a b < 0) (h2 : cmpS b c < 0) : cmpS a c < 0 := by
  unfold cmpS at h1 h2 ⊢
  by_cases p1 : a.length < b.length
  · by_cases q1 : b.length < c.length
    · rw [if_pos (by omega)]; decide
    · by_cases q2 : c.length < b.length
      · rw [if_neg q1, if_pos q2] at h2; omega
      · rw [if_pos (by omega)]; decide
  · by_cases p2 : b.length < a.length
    · rw [if_neg p1, if_pos p2] at h1; omega
    · rw [if_neg p1, if_neg p2] at h1
      by_cases q1 : b.length < c.length
      · rw [if_pos (by omega)]; decide
      · by_cases q2 : c.length < b.length
        · rw [if_neg q1, if_pos q2] at h2; omega
        · rw [if_neg q1, if_neg q2] at h2
          rw [if_neg (by omega), if_neg (by omega)]
          exact cmpL_trans h1 h2
/-- The order of sets, as a relation. -/
def ltS (a b : List Int) : Prop := cmpS a b < 0
theorem ltS_trans {a b c : List Int} (h1 : ltS a b) (h2 : ltS b c) : ltS a c := cmpS_trans h1 h2
theorem ltS_irrefl (a : List Int) : ¬ ltS a a := by unfold ltS; rw [cmpS_zero.2 rfl]; decide
theorem ltS_total (a b : List Int) : ltS a b ∨ a = b ∨ ltS b a := by
  unfold ltS
  rcases Int.lt_trichotomy (cmpS a b) 0 with h | h | h
  · exact .inl h
  · exact .inr (.inl (cmpS_zero.1 h))
  · exact .inr (.inr (cmpS_neg.2 h))
theorem ltS_asymm {a b : List Int} (h : ltS a b) : ¬ ltS b a := fun h' => ltS_irrefl a (ltS_trans h h')
theorem ltS_len {a b : List Int} (h : ltS a b) : a.length ≤ b.length := by
  unfold ltS cmpS at h
  by_cases h1 : a.length < b.length
  · omega
  · by_cases h2 : b.length < a.length
    · rw [if_neg h1, if_pos h2] at h; omega
    · omega
theorem ltS_of_len {a b : List Int} (h : a.length < b.length) : ltS a b := by unfold ltS cmpS; rw [if_pos h]; decide

/-- A list in strict order is fixed by its elements. -/
theorem sorted_unique : ∀ {a b : List (List Int)}, a.Pairwise ltS → b.Pairwise ltS → (∀ x, x ∈ a ↔ x ∈ b) → a = b
  | [], [], _, _, _ => rfl
  | [], y :: b, _, _, h => by have := (h y).2 (by simp); cases this
  | x :: a, [], _, _, h => by have := (h x).1 (by simp); cases this
  | x :: a, y :: b, ha, hb, h => by
    have ha' := List.pairwise_cons.1 ha
    have hb' := List.pairwise_cons.1 hb
    have e : x = y := by
      rcases List.mem_cons.1 ((h x).1 (by simp)) with e | hx
      · exact e
      · rcases List.mem_cons.1 ((h y).2 (by simp)) with e | hy
        · exact e.symm
        · exact absurd (hb'.1 x hx) (ltS_asymm (ha'.1 y hy))
    subst e
    congr 1
    refine sorted_unique ha'.2 hb'.2 fun z => ⟨fun hz => ?_, fun hz => ?_⟩
    · rcases List.mem_cons.1 ((h z).1 (by simp [hz])) with e | hz'
      · subst e; exact absurd (ha'.1 z hz) (ltS_irrefl z)
      · exact hz'
    · rcases List.mem_cons.1 ((h z).2 (by simp [hz])) with e | hz'
      · subst e; exact absurd (hb'.1 z hz) (ltS_irrefl z)
      · exact hz'

/-- An increasing list is fixed by its elements. -/
theorem inc_unique : ∀ {a b : List Int}, Inc a → Inc b → (∀ x, x ∈ a ↔ x ∈ b) → a = b
  | [], [], _, _, _ => rfl
  | [], y :: b, _, _, h => by have := (h y).2 (by simp); cases this
  | x :: a, [], _, _, h => by have := (h x).1 (by simp); cases this
  | x :: a, y :: b, ha, hb, h => by
    have ha' := List.pairwise_cons.1 ha
    have hb' := List.pairwise_cons.1 hb
    have e : x = y := by
      rcases List.mem_cons.1 ((h x).1 (by simp)) with e | hx
      · exact e
      · rcases List.mem_cons.1 ((h y).2 (by simp)) with e | hy
        · exact e.symm
        · have := hb'.1 x hx; have := ha'.1 y hy; omega
    subst e
    congr 1
    refine inc_unique ha'.2 hb'.2 fun z => ⟨fun hz => ?_, fun hz => ?_⟩
    · rcases List.mem_cons.1 ((h z).1 (by simp [hz])) with e | hz'
      · subst e; have := ha'.1 z hz; omega
      · exact hz'
    · rcases List.mem_cons.1 ((h z).2 (by simp [hz])) with e | hz'
      · subst e; have := hb'.1 z hz; omega
      · exact hz'
theorem inc_nodup : ∀ {a : List Int}, Inc a → a.Nodup
  | [], _ => List.nodup_nil
  | x :: a, h => by
    have h' := List.pairwise_cons.1 h
    exact List.nodup_cons.2 ⟨fun hx => by have := h'.1 x hx; omega, inc_nodup h'.2⟩
theorem nodup_len {α : Type} [DecidableEq α] : ∀ {a b : List α}, a.Nodup → (∀ x ∈ a, x ∈ b) → a.length ≤ b.length
  | [], _, _, _ => Nat.zero_le _
  | x :: a, b, ha, h => by
    have ha' := List.nodup_cons.1 ha
    have hx := h x (by simp)
    have h1 : ∀ y ∈ a, y ∈ b.erase x := fun y hy => (List.mem_erase_of_ne (fun e => ha'.1 (by rw [← e]; exact hy))).2 (h y (by simp [hy]))
    have h2 := nodup_len ha'.2 h1
    have h3 := List.length_erase_of_mem hx
    have h4 : 0 < b.length := List.length_pos_of_mem hx
    simp only [List.length_cons]
    omega
theorem sub_len {a b : List Int} (ha : Inc a) (h : ∀ x ∈ a, x ∈ b) : a.length ≤ b.length := nodup_len (inc_nodup ha) h
/-- A subset of the same size is the whole. -/
theorem sub_eq {a b : List Int} (ha : Inc a) (hb : Inc b) (h : ∀ x ∈ a, x ∈ b) (hl : b.length ≤ a.length) : a = b := by
  refine inc_unique ha hb fun x => ⟨h x, fun hx => ?_⟩
  refine Classical.byContradiction fun hn => ?_
  have := nodup_len (a := x :: a) (b := b) (List.nodup_cons.2 ⟨hn, inc_nodup ha⟩) (fun y hy => by
    rcases List.mem_cons.1 hy with rfl | hy
    · exact hx
    · exact h y hy)
  simp only [List.length_cons] at this
  omega
end Go.Proofs.YtbmdfnifbimfmaaGreatDoor
