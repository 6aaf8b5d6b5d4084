/- Walks: Check. -/
import Derived.Test.YtbmdfnifbimfmaaGreatDoorH8
namespace Go.Proofs.YtbmdfnifbimfmaaGreatDoor
open Go.RowKit

/-- A search. -/
structure Sr where
  F : List (List Int)
  O : List (List Int)
  sp : Int
  dn : Bool
def SrV (w : World) (v : Value) (s : Sr) : Prop := ∃ vF vO, v = .agg #[vF, vO, .int .i64 s.sp, .bool s.dn] ∧ SS w vF s.F ∧ SS w vO s.O
theorem SrV.up {w w' : World} {v : Value} {s : Sr} (h : SrV w v s) (hb : Below w.heap.size w w') : SrV w' v s := by
  obtain ⟨vF, vO, e, h1, h2⟩ := h; exact ⟨vF, vO, e, h1.up hb, h2.up hb⟩

def FOK (l : List (List Int)) : Prop := l.Pairwise fun a b => ltS a b ∧ ¬ PSub a b
def OOK (O l : List (List Int)) : Prop := l.Nodup ∧ l.Pairwise (fun a b => a.length ≤ b.length) ∧ ∀ t ∈ l, t.length ≤ (O.headD []).length + 1
structure SrOk (s : Sr) : Prop where
  vF : ValidAll s.F
  vO : ValidAll s.O
  lF : s.F.length ≤ 256
  fok : FOK s.F
  ook : OOK s.O s.O
  sp : 0 ≤ s.sp ∧ s.sp ≤ 1073741824
  dn : s.dn = decide (s.O.length = 0)
def CheckPost (w : World) (s : Sr) (e : Ending) (w' : World) : Prop := e = .returned (.int .i64 (if bOf (SrOk s) then 0 else 1)) ∧ Below w.heap.size w w'
theorem CheckPost.no {w w' : World} {s : Sr} (h : ¬ SrOk s) (hb : Below w.heap.size w w') : CheckPost w s (.returned (.int .i64 1)) w' := ⟨by rw [bOf_false h]; rfl, hb⟩
theorem CheckPost.yes {w w' : World} {s : Sr} (h : SrOk s) (hb : Below w.heap.size w w') : CheckPost w s (.returned (.int .i64 0)) w' := ⟨by rw [bOf_true h]; rfl, hb⟩

theorem fok_step {F : List (List Int)} {k : Nat} {t : List Int} (ht : F[k]? = some t) : FOK (F.take (k + 1)) ↔ FOK (F.take k) ∧ (∀ y, 0 < k → F[k - 1]? = some y → ltS y t) ∧ ∀ u ∈ F.take k, ¬ PSub u t := by
  unfold FOK
  rw [take_snoc ht, List.pairwise_append]
  constructor
  · rintro ⟨h1, _, h3⟩
    refine ⟨h1, fun y h0 hy => (h3 y ?_ t (by simp)).1, fun u hu => (h3 u hu t (by simp)).2⟩
    obtain ⟨hl, rfl⟩ := List.getElem?_eq_some_iff.1 hy
    exact List.mem_take_iff_getElem.2 ⟨k - 1, by omega, rfl⟩
  · rintro ⟨h1, h2, h3⟩
    refine ⟨h1, by simp, fun u hu b hb => ?_⟩
    rw [List.mem_singleton.1 hb]
    refine ⟨?_, h3 u hu⟩
    obtain ⟨i, hi, rfl⟩ := List.mem_take_iff_getElem.1 hu
    have hk0 : 0 < k := by omega
    have hl := (List.getElem?_eq_some_iff.1 ht).1
    have hlast := h2 F[k - 1] hk0 (List.getElem?_eq_getElem _)
    by_cases e : i = k - 1
    · subst e; exact hlast
    · have h5 := List.pairwise_iff_getElem.1 h1 i (k - 1) (by rw [List.length_take]; omega) (by rw [List.length_take]; omega) (by omega)
      rw [List.getElem_take, List.getElem_take] at h5
      exact ltS_trans h5.1 hlast
theorem ook_step {O : List (List Int)} {k : Nat} {t : List Int} (ht : O[k]? = some t) : OOK O (O.take (k + 1)) ↔ OOK O (O.take k) ∧ t ∉ O.take k ∧ (∀ y, 0 < k → O[k - 1]? = some y → y.length ≤ t.length) ∧ t.length ≤ (O.headD []).length + 1 := by
  unfold OOK
  rw [take_snoc ht, List.pairwise_append, List.nodup_append]
  constructor
  · rintro ⟨⟨h1, _, h2⟩, ⟨h3, _, h4⟩, h5⟩
    refine ⟨⟨h1, h3, fun t ht => h5 t (by simp [ht])⟩, fun h => h2 t h t (by simp) rfl, fun y h0 hy => h4 y ?_ t (by simp), h5 t (by simp)⟩
    obtain ⟨hl, rfl⟩ := List.getElem?_eq_some_iff.1 hy
    exact List.mem_take_iff_getElem.2 ⟨k - 1, by omega, rfl⟩
  · rintro ⟨⟨h1, h2, h3⟩, h4, h5, h6⟩
    refine ⟨⟨h1, by simp, fun a ha b hb e => ?_⟩, ⟨h2, by simp, fun u hu b hb => ?_⟩, fun u hu => ?_⟩
    · rw [List.mem_singleton.1 hb] at e; rw [e] at ha; exact h4 ha
    · rw [List.mem_singleton.1 hb]
      obtain ⟨i, hi, rfl⟩ := List.mem_take_iff_getElem.1 hu
      have hk0 : 0 < k := by omega
      have hl := (List.getElem?_eq_some_iff.1 ht).1
      have hlast := h5 O[k - 1] hk0 (List.getElem?_eq_getElem _)
      by_cases e : i = k - 1
      · subst e; exact hlast
      · have h7 := List.pairwise_iff_getElem.1 h2 i (k - 1) (by rw [List.length_take]; omega) (by rw [List.length_take]; omega) (by omega)
        rw [List.getElem_take, List.getElem_take] at h7
        exact Nat.le_trans h7 hlast
    · rcases List.mem_append.1 hu with hu | hu
      · exact h3 u hu
      · rw [List.mem_singleton.1 hu]; exact h6
theorem fok_take {F : List (List Int)} (h : FOK F) (k : Nat) : FOK (F.take k) := List.Pairwise.sublist (List.take_sublist k F) h
theorem ook_take {O : List (List Int)} (h : OOK O O) (k : Nat) : OOK O (O.take k) :=
  ⟨List.Pairwise.sublist (List.take_sublist k O) h.1, List.Pairwise.sublist (List.take_sublist k O) h.2.1, fun t ht => h.2.2 t (List.mem_of_mem_take ht)⟩
theorem ltS_geq {a b : List Int} : decide (0 ≤ cmpS a b) = !(bOf (ltS a b)) := by
  by_cases h : ltS a b
  · rw [bOf_true h]; unfold ltS at h; simp; omega
  · rw [bOf_false h]; unfold ltS at h; simp; omega
end Go.Proofs.YtbmdfnifbimfmaaGreatDoor
