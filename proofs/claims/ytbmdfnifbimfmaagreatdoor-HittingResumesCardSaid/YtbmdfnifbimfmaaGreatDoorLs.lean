/- sane: the chapter's examples. -/
import Derived.Test.YtbmdfnifbimfmaaGreatDoorCA
import Derived.Test.YtbmdfnifbimfmaaGreatDoorG8
import Derived.Test.YtbmdfnifbimfmaaGreatDoorR4
namespace Go.Proofs.YtbmdfnifbimfmaaGreatDoor
open Go.RowKit Go.Shelf
attribute [local go_sem] Oper.semAt_some

/-! ### Minimal, in one form -/
def MinOk (L M : List (List Int)) (c : Int) : Prop := (ValidAll L ∧ IsMin L M ∧ c = 0) ∨ (¬ ValidAll L ∧ M = [] ∧ c = 1)
def MinC (w : World) (L : List (List Int)) (e : Ending) (w' : World) : Prop := ∃ v M c, e = .returned (.tuple #[v, .int .i64 c]) ∧ SS w' v M ∧ MinOk L M c ∧ M.length ≤ L.length ∧ Below w.heap.size w w'
theorem minC_of {w : World} {L : List (List Int)} {e : Ending} {w' : World} (h : MinimalPost w L e w') : MinC w L e w' := by
  obtain ⟨v, M, rfl, h1, h2, h3, h5, h4⟩ := h
  cases hv : bOf (ValidAll L) with
  | true => exact ⟨v, M, 0, rfl, h1, .inl ⟨bOf_iff.1 hv, h2 (bOf_iff.1 hv), rfl⟩, h5, h4⟩
  | false => exact ⟨v, M, 1, rfl, h1, .inr ⟨bOf_false_iff.1 hv, h3 (bOf_false_iff.1 hv), rfl⟩, h5, h4⟩
theorem minOk_same {L M N : List (List Int)} {c d : Int} (h1 : MinOk L M c) (h2 : MinOk L N d) : M = N ∧ c = d := by
  rcases h1 with ⟨a1, a2, a3⟩ | ⟨a1, a2, a3⟩ <;> rcases h2 with ⟨b1, b2, b3⟩ | ⟨b1, b2, b3⟩
  · exact ⟨a2.unique b2, by rw [a3, b3]⟩
  · exact absurd a1 b1
  · exact absurd b1 a1
  · exact ⟨by rw [a2, b2], by rw [a3, b3]⟩
theorem Minimal_c (v : Value) (L : List (List Int)) (w : World) (h : SS w v L) (hl : L.length ≤ 1000000) (hll : ∀ l ∈ L, l.length ≤ 1000000) (ht : Tab w) : Calls Tryz.prog 11 #[v] w (MinC w L) :=
  (Minimal_any v L w h hl hll ht).mono fun _ _ => minC_of
theorem rMinimal_c (v : Value) (L : List (List Int)) (w : World) (h : SS w v L) (hl : L.length ≤ 100000) (hll : ∀ l ∈ L, l.length ≤ 1000000) : Calls Tryz.prog 12 #[v] w (MinC w L) :=
  (rMinimal_any v L w h hl hll).mono fun _ _ => minC_of

/-! ### The examples -/
theorem ex_min : IsMin [[1, 2], [2], [1, 3]] [[2], [1, 3]] := by
  refine ⟨List.pairwise_cons.2 ⟨fun b hb => ?_, List.pairwise_singleton _ _⟩, fun l => ?_⟩
  · rw [List.mem_singleton.1 hb]; exact ltS_of_len (by decide)
  · constructor
    · intro h
      rcases List.mem_cons.1 h with rfl | h
      · refine ⟨by simp, fun t ht => ?_⟩
        rintro ⟨h1, _⟩
        simp at h1; subst h1; simp at ht
      · rw [List.mem_singleton.1 h]
        refine ⟨by simp, fun t ht => ?_⟩
        rintro ⟨h1, h2⟩
        rcases List.mem_cons.1 ht with rfl | ht
        · simp at h1
        · rcases List.mem_cons.1 ht with rfl | ht
          · have := h2 2 (by simp); simp at this
          · rw [List.mem_singleton.1 ht] at h1; simp at h1
    · rintro ⟨h, hm⟩
      rcases List.mem_cons.1 h with rfl | h
      · exact absurd (show PSub [2] [1, 2] from ⟨by decide, fun x hx => by rw [List.mem_singleton.1 hx]; simp⟩) (hm [2] (by simp))
      · exact h
theorem ex_all : IsAll [[1, 2], [2, 3]] [[2], [1, 3]] := by
  refine ⟨List.pairwise_cons.2 ⟨fun b hb => ?_, List.pairwise_singleton _ _⟩, fun T => ⟨fun h => ?_, fun h => ?_⟩⟩
  · rw [List.mem_singleton.1 hb]; exact ltS_of_len (by decide)
  · rcases List.mem_cons.1 h with rfl | h
    · exact ⟨List.pairwise_singleton _ _, by simp, by simp⟩
    · rw [List.mem_singleton.1 h]
      exact ⟨by unfold Inc; simp, by simp, by simp⟩
  · obtain ⟨h1, h2, h3⟩ := h
    by_cases h : (2 : Int) ∈ T
    · have : T = [2] := inc_unique h1 (List.pairwise_singleton _ _) fun x => by
        constructor
        · intro hx
          obtain ⟨s, hs, hxs, hy⟩ := h3 x hx
          have : (2 : Int) ∈ s := by
            rcases List.mem_cons.1 hs with rfl | hs
            · simp
            · rw [List.mem_singleton.1 hs]; simp
          rw [← hy 2 this h]; simp
        · intro hx; rw [List.mem_singleton.1 hx]; exact h
      rw [this]; simp
    · have hn : ∀ x, x ∈ ([1, 2] : List Int) → x ∈ T → x = 1 := fun x hx hT => by
        simp at hx; rcases hx with rfl | rfl
        · rfl
        · exact absurd hT h
      have hn' : ∀ x, x ∈ ([2, 3] : List Int) → x ∈ T → x = 3 := fun x hx hT => by
        simp at hx; rcases hx with rfl | rfl
        · exact absurd hT h
        · rfl
      obtain ⟨a, ha, haT⟩ := h2 [1, 2] (by simp)
      obtain ⟨b, hb, hbT⟩ := h2 [2, 3] (by simp)
      obtain rfl := hn a ha haT
      obtain rfl := hn' b hb hbT
      have : T = [1, 3] := inc_unique h1 (by unfold Inc; simp) fun x => by
        constructor
        · intro hx
          obtain ⟨s, hs, hxs, _⟩ := h3 x hx
          rcases List.mem_cons.1 hs with rfl | hs
          · rw [hn x hxs hx]; simp
          · rw [List.mem_singleton.1 hs] at hxs; rw [hn' x hxs hx]; simp
        · intro hx; simp at hx; rcases hx with rfl | rfl
          · exact haT
          · exact hbT
      rw [this]; simp
theorem ex_nil : IsAll [] [[]] := by
  refine ⟨List.pairwise_singleton _ _, fun T => ⟨fun h => ?_, fun h => ?_⟩⟩
  · rw [List.mem_singleton.1 h]; exact ⟨List.Pairwise.nil, by simp, by simp⟩
  · match T, h with
    | [], _ => simp
    | x :: T, h => obtain ⟨s, hs, _⟩ := h.2.2 x (by simp); cases hs
theorem valid_of {l : List Int} (h : l = [1, 2] ∨ l = [2] ∨ l = [1, 3] ∨ l = [2, 3] ∨ l = [3, 5] ∨ l = []) : Valid l := by
  rcases h with rfl | rfl | rfl | rfl | rfl | rfl <;> (refine ⟨?_, ?_⟩ <;> simp [Inc])
theorem ex_min_c {M : List (List Int)} {c : Int} (h : MinOk [[1, 2], [2], [1, 3]] M c) : M = [[2], [1, 3]] ∧ c = 0 :=
  minOk_same h (.inl ⟨fun l hl => valid_of (by simp at hl; rcases hl with rfl | rfl | rfl <;> simp), ex_min, rfl⟩)
abbrev AllOk (L : List (List Int)) (most : Int) (M : List (List Int)) (c : Int) : Prop :=
  (¬ okMost L most ∧ M = [] ∧ c = 1) ∨ (okMost L most ∧ IsAll L M ∧ (M.length : Int) ≤ most ∧ c = 0) ∨ (okMost L most ∧ M = [] ∧ c = 2 ∧ ∃ P : List (List Int), P.Nodup ∧ (∀ T ∈ P, MHS L T) ∧ most < P.length)
theorem all_of {L N M : List (List Int)} {most c : Int} (ho : okMost L most) (hN : IsAll L N) (hl : (N.length : Int) ≤ most) (h : AllOk L most M c) : M = N ∧ c = 0 := by
  rcases h with ⟨h1, _⟩ | ⟨_, h2, _, h3⟩ | ⟨_, _, _, P, p1, p2, p3⟩
  · exact absurd ho h1
  · exact ⟨h2.unique hN, h3⟩
  · have := nodup_len p1 (fun T hT => (hN.2 T).2 (p2 T hT))
    omega
theorem all_full {L N M : List (List Int)} {most c : Int} (ho : okMost L most) (hN : IsAll L N) (hl : most < (N.length : Int)) (h : AllOk L most M c) : M = [] ∧ c = 2 := by
  rcases h with ⟨h1, _⟩ | ⟨_, h2, h3, _⟩ | ⟨_, h2, h3, _⟩
  · exact absurd ho h1
  · rw [h2.unique hN] at h3; omega
  · exact ⟨h2, h3⟩
theorem ok_ex : okMost [[1, 2], [2, 3]] 2 := ⟨fun l hl => valid_of (by simp at hl; rcases hl with rfl | rfl <;> simp), by decide, by decide⟩
theorem ok_nil (m : Int) (h0 : 0 ≤ m) (h1 : m ≤ 256) : okMost [] m := ⟨fun l hl => (nomatch hl), h0, h1⟩

/-! ### Give at the beginning -/
def sr0 : Sr := ⟨[], [[]], 0, false⟩
theorem sr0_ok : SrOk sr0 :=
  ⟨fun _ h => (nomatch h), fun l hl => by rw [List.mem_singleton.1 hl]; exact valid_of (by simp), by decide, List.Pairwise.nil, ⟨by simp [sr0], by simp [sr0], fun t ht => by rw [List.mem_singleton.1 ht]; simp⟩, by decide, rfl⟩
theorem give_ex1 : giveS sr0 [3, 5] false = ⟨[[3, 5]], [[3], [5]], 1, false⟩ := by
  have e0 : ∀ b : List Int, bOf (b ∈ ([] : List (List Int))) = false := fun b => bOf_false (by simp)
  have e2 : newO [] [] [3, 5] = [[3], [5]] := by
    have e1 : bOf False = false := bOf_false (fun h => h)
    unfold newO
    simp [e1, brL, insAt, cntLt]
  have e3 : sr0.O.tail = [] := rfl
  have e4 : sr0.O.headD [] = [] := rfl
  have e5 : sr0.F = [] := rfl
  unfold giveS
  rw [e3, e4, e5, e2, e0]
  simp [insAt, rank, sr0]
theorem give_ex2 : giveS sr0 [] true = ⟨[], [], 1, true⟩ := by simp [giveS, sr0]
theorem give_good1 {s' : Sr} {c : Int} (h : (GiveBad sr0 [3, 5] false ∧ s' = noSr ∧ c = 1) ∨ (¬ GiveBad sr0 [3, 5] false ∧ GiveFull sr0 [3, 5] false ∧ s' = noSr ∧ c = 2) ∨ (¬ GiveBad sr0 [3, 5] false ∧ ¬ GiveFull sr0 [3, 5] false ∧ s' = giveS sr0 [3, 5] false ∧ c = 0)) :
    s' = ⟨[[3, 5]], [[3], [5]], 1, false⟩ ∧ c = 0 := by
  rcases h with ⟨h, _⟩ | ⟨_, h, _⟩ | ⟨_, _, h, hc⟩
  · rcases h with h | h | ⟨h, _⟩ | ⟨_, h⟩
    · exact absurd sr0_ok h
    · cases h
    · cases h
    · rcases h with h | ⟨x, _, h⟩ | ⟨f, h, _⟩
      · exact absurd (valid_of (by simp)) h
      · cases h
      · cases h
  · exact absurd h.2.2 (by decide)
  · exact ⟨h.trans give_ex1, hc⟩
theorem give_good2 {s' : Sr} {c : Int} (h : (GiveBad sr0 [] true ∧ s' = noSr ∧ c = 1) ∨ (¬ GiveBad sr0 [] true ∧ GiveFull sr0 [] true ∧ s' = noSr ∧ c = 2) ∨ (¬ GiveBad sr0 [] true ∧ ¬ GiveFull sr0 [] true ∧ s' = giveS sr0 [] true ∧ c = 0)) :
    s' = ⟨[], [], 1, true⟩ ∧ c = 0 := by
  rcases h with ⟨h, _⟩ | ⟨_, h, _⟩ | ⟨_, _, h, hc⟩
  · rcases h with h | h | ⟨_, h⟩ | ⟨h, _⟩
    · exact absurd sr0_ok h
    · cases h
    · cases h
    · cases h
  · exact absurd h.1 (by decide)
  · exact ⟨h.trans give_ex2, hc⟩

end Go.Proofs.YtbmdfnifbimfmaaGreatDoor
