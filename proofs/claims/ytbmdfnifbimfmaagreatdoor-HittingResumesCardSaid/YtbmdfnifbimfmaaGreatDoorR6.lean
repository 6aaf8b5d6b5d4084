/- The plain law of Transversals. -/
import Derived.Test.YtbmdfnifbimfmaaGreatDoorR5
import Derived.Test.YtbmdfnifbimfmaaGreatDoorG6
namespace Go.Proofs.YtbmdfnifbimfmaaGreatDoor

/-! ### Add -/
def insL : List Int → Int → List Int
  | [], n => [n]
  | x :: l, n => if n ≤ x then n :: (x :: l).filter (fun y => decide (y ≠ n)) else x :: insL l n
theorem addS_true (n : Int) : ∀ (l acc : List Int), l.foldl (addF n) (acc, true) = (acc ++ l.filter (fun y => decide (y ≠ n)), true)
  | [], acc => by simp
  | x :: l, acc => by
    rw [List.foldl_cons]
    have : addF n (acc, true) x = (acc ++ (if x = n then [] else [x]), true) := by simp [addF]
    rw [this, addS_true n l]
    by_cases h : x = n <;> simp [h]
theorem addS_false (n : Int) : ∀ (l acc : List Int), (if (l.foldl (addF n) (acc, false)).2 then (l.foldl (addF n) (acc, false)).1 else (l.foldl (addF n) (acc, false)).1 ++ [n]) = acc ++ insL l n
  | [], acc => by simp [insL]
  | x :: l, acc => by
    rw [List.foldl_cons]
    by_cases h : n ≤ x
    · have : addF n (acc, false) x = (acc ++ [n] ++ (if x = n then [] else [x]), true) := by simp [addF, h]
      rw [this, addS_true n l, insL, if_pos h]
      by_cases h2 : x = n <;> simp [h2]
    · have h2 : ¬ x = n := by omega
      have : addF n (acc, false) x = (acc ++ [x], false) := by simp [addF, h, h2]
      rw [this, addS_false n l, insL, if_neg h]
      simp
theorem addL_eq (l : List Int) (n : Int) : addL l n = insL l n := by
  have := addS_false n l []
  unfold addL addS
  simpa using this
theorem mem_insL (n z : Int) : ∀ l : List Int, z ∈ insL l n ↔ z ∈ l ∨ z = n
  | [] => by simp [insL]
  | x :: l => by
    rw [insL]
    by_cases h : n ≤ x
    · rw [if_pos h, List.mem_cons, List.mem_filter]
      by_cases hz : z = n <;> simp [hz]
    · rw [if_neg h, List.mem_cons, mem_insL n z l, List.mem_cons, or_assoc]
theorem inc_insL (n : Int) : ∀ {l : List Int}, Inc l → Inc (insL l n)
  | [], _ => by simp [insL]
  | x :: l, hi => by
    have hx := List.pairwise_cons.1 hi
    rw [insL]
    by_cases h : n ≤ x
    · rw [if_pos h]
      refine List.pairwise_cons.2 ⟨fun y hy => ?_, hi.filter _⟩
      rw [List.mem_filter] at hy
      obtain ⟨h1, h2⟩ := hy
      have h3 : y ≠ n := by simpa using h2
      rcases List.mem_cons.1 h1 with rfl | h4
      · omega
      · have := hx.1 y h4; omega
    · rw [if_neg h]
      refine List.pairwise_cons.2 ⟨fun y hy => ?_, inc_insL n hx.2⟩
      rcases (mem_insL n y l).1 hy with h4 | rfl
      · exact hx.1 y h4
      · omega
theorem len_insL (n : Int) : ∀ l : List Int, (insL l n).length ≤ l.length + 1
  | [] => by simp [insL]
  | x :: l => by
    rw [insL]
    by_cases h : n ≤ x
    · rw [if_pos h, List.length_cons]
      have := List.length_filter_le (fun y => decide (y ≠ n)) (x :: l)
      omega
    · rw [if_neg h, List.length_cons, List.length_cons]
      have := len_insL n l
      omega
theorem mem_addL (l : List Int) (n z : Int) : z ∈ addL l n ↔ z ∈ l ∨ z = n := by rw [addL_eq]; exact mem_insL n z l
theorem inc_addL {l : List Int} (h : Inc l) (n : Int) : Inc (addL l n) := by rw [addL_eq]; exact inc_insL n h
theorem len_addL (l : List Int) (n : Int) : (addL l n).length ≤ l.length + 1 := by rw [addL_eq]; exact len_insL n l

/-! ### Transversals -/
noncomputable def trAdd (o : List Int) (s : List Int) (acc : List (List Int)) : List (List Int) := s.foldl (fun a n => withL a (addL o n)) acc
noncomputable def trIn (s : List Int) (acc : List (List Int)) (o : List Int) : List (List Int) := if bOf (Meet o s) then withL acc o else trAdd o s acc
noncomputable def trNx (out : List (List Int)) (s : List Int) : List (List Int) := out.foldl (trIn s) []
noncomputable def trStep (out : List (List Int)) (s : List Int) : List (List Int) := lstL (trNx out s) (trNx out s)
noncomputable def trL (L : List (List Int)) : List (List Int) := L.foldl trStep [[]]
theorem trL_succ {L : List (List Int)} {k : Nat} {s : List Int} (h : L[k]? = some s) : trL (L.take (k + 1)) = trStep (trL (L.take k)) s := by
  rw [take_snoc h]; simp [trL]
theorem trNx_succ {out : List (List Int)} {s : List Int} {k : Nat} {o : List Int} (h : out[k]? = some o) : trNx (out.take (k + 1)) s = trIn s (trNx (out.take k) s) o := by
  rw [take_snoc h]; simp [trNx]
theorem trAdd_succ {o s : List Int} {acc : List (List Int)} {k : Nat} {n : Int} (h : s[k]? = some n) : trAdd o (s.take (k + 1)) acc = withL (trAdd o (s.take k) acc) (addL o n) := by
  rw [take_snoc h]; simp [trAdd]

theorem trAdd_spec (o : List Int) : ∀ (s : List Int) (acc : List (List Int)), acc.Pairwise ltS → (trAdd o s acc).Pairwise ltS ∧ (∀ x, x ∈ trAdd o s acc ↔ x ∈ acc ∨ ∃ n ∈ s, x = addL o n) ∧ (trAdd o s acc).length ≤ acc.length + s.length
  | [], acc, h => ⟨h, fun x => by simp [trAdd], by simp [trAdd]⟩
  | n :: s, acc, h => by
    have e : trAdd o (n :: s) acc = trAdd o s (withL acc (addL o n)) := rfl
    obtain ⟨h1, h2, h3⟩ := trAdd_spec o s (withL acc (addL o n)) (withL_sorted h _)
    rw [e]
    refine ⟨h1, fun x => ?_, ?_⟩
    · rw [h2, withL_mem]
      constructor
      · rintro ((h | rfl) | ⟨m, hm, rfl⟩)
        · exact .inl h
        · exact .inr ⟨n, by simp, rfl⟩
        · exact .inr ⟨m, by simp [hm], rfl⟩
      · rintro (h | ⟨m, hm, rfl⟩)
        · exact .inl (.inl h)
        · rcases List.mem_cons.1 hm with rfl | hm
          · exact .inl (.inr rfl)
          · exact .inr ⟨m, hm, rfl⟩
    · have := withL_len acc (addL o n)
      simp only [List.length_cons]
      omega
def TrEl (s o x : List Int) : Prop := (Meet o s ∧ x = o) ∨ (¬ Meet o s ∧ ∃ n ∈ s, x = addL o n)
theorem trIn_spec (s : List Int) (acc : List (List Int)) (o : List Int) (h : acc.Pairwise ltS) : (trIn s acc o).Pairwise ltS ∧ (∀ x, x ∈ trIn s acc o ↔ x ∈ acc ∨ TrEl s o x) ∧ (trIn s acc o).length ≤ acc.length + max 1 s.length := by
  unfold trIn TrEl
  by_cases hm : Meet o s
  · rw [bOf_true hm, if_pos rfl]
    refine ⟨withL_sorted h _, fun x => ?_, ?_⟩
    · rw [withL_mem]; simp [hm]
    · have := withL_len acc o; omega
  · rw [bOf_false hm, if_neg (by simp)]
    obtain ⟨h1, h2, h3⟩ := trAdd_spec o s acc h
    refine ⟨h1, fun x => ?_, by omega⟩
    rw [h2]; simp [hm]
theorem trFold_spec (s : List Int) : ∀ (out acc : List (List Int)), acc.Pairwise ltS → (out.foldl (trIn s) acc).Pairwise ltS ∧ (∀ x, x ∈ out.foldl (trIn s) acc ↔ x ∈ acc ∨ ∃ o ∈ out, TrEl s o x) ∧ (out.foldl (trIn s) acc).length ≤ acc.length + out.length * max 1 s.length
  | [], acc, h => ⟨h, fun x => by simp, by simp⟩
  | o :: out, acc, h => by
    rw [List.foldl_cons]
    obtain ⟨h1, h2, h3⟩ := trIn_spec s acc o h
    obtain ⟨h4, h5, h6⟩ := trFold_spec s out (trIn s acc o) h1
    refine ⟨h4, fun x => ?_, ?_⟩
    · rw [h5, h2]
      constructor
      · rintro ((h | h) | ⟨p, hp, h⟩)
        · exact .inl h
        · exact .inr ⟨o, by simp, h⟩
        · exact .inr ⟨p, by simp [hp], h⟩
      · rintro (h | ⟨p, hp, h⟩)
        · exact .inl (.inl h)
        · rcases List.mem_cons.1 hp with rfl | hp
          · exact .inl (.inr h)
          · exact .inr ⟨p, hp, h⟩
    · rw [List.length_cons, Nat.succ_mul]
      omega
theorem trNx_spec (out : List (List Int)) (s : List Int) : (trNx out s).Pairwise ltS ∧ (∀ x, x ∈ trNx out s ↔ ∃ o ∈ out, TrEl s o x) ∧ (trNx out s).length ≤ out.length * max 1 s.length := by
  obtain ⟨h1, h2, h3⟩ := trFold_spec s out [] List.Pairwise.nil
  exact ⟨h1, fun x => by have := h2 x; simpa [trNx] using this, by simpa [trNx] using h3⟩

/-- T hits all of P. -/
def HitAll (P : List (List Int)) (T : List Int) : Prop := ∀ s ∈ P, ∃ x ∈ s, x ∈ T
theorem mhs_inside {P : List (List Int)} : ∀ (n : Nat) (T : List Int), T.length ≤ n → Inc T → HitAll P T → ∃ o, MHS P o ∧ ∀ x ∈ o, x ∈ T := by
  intro n
  induction n with
  | zero =>
    intro T hn hT hh
    have : T = [] := List.eq_nil_of_length_eq_zero (by omega)
    subst this
    exact ⟨[], ⟨hT, hh, fun _ h => by cases h⟩, fun _ h => h⟩
  | succ n ih =>
    intro T hn hT hh
    by_cases hc : ∀ x ∈ T, ∃ s ∈ P, x ∈ s ∧ ∀ y ∈ s, y ∈ T → y = x
    · exact ⟨T, ⟨hT, hh, hc⟩, fun _ h => h⟩
    · obtain ⟨x, hx⟩ := Classical.not_forall.1 hc
      have hxT : x ∈ T := Classical.byContradiction fun h => hx fun h' => absurd h' h
      have hx2 : ¬ ∃ s ∈ P, x ∈ s ∧ ∀ y ∈ s, y ∈ T → y = x := fun h => hx fun _ => h
      have hlen : (T.filter fun y => decide (y ≠ x)).length < T.length := by
        rcases Nat.lt_or_ge (T.filter fun y => decide (y ≠ x)).length T.length with h | h
        · exact h
        · have := List.length_filter_le (fun y => decide (y ≠ x)) T
          have h4 := List.length_filter_eq_length_iff.1 (Nat.le_antisymm this h) x hxT
          simp at h4
      obtain ⟨o, ho, hs⟩ := ih (T.filter fun y => decide (y ≠ x)) (by omega) (hT.filter _) (fun s hs => by
        obtain ⟨y, hy, hyT⟩ := hh s hs
        by_cases hyx : y = x
        · subst hyx
          refine Classical.byContradiction fun hno => hx2 ⟨s, hs, hy, fun z hz hzT => ?_⟩
          refine Classical.byContradiction fun hzx => hno ⟨z, hz, ?_⟩
          rw [List.mem_filter]; exact ⟨hzT, by simpa using hzx⟩
        · exact ⟨y, hy, by rw [List.mem_filter]; exact ⟨hyT, by simpa using hyx⟩⟩)
      exact ⟨o, ho, fun y hy => (List.mem_filter.1 (hs y hy)).1⟩
/-- A hitting set that lies inside a minimal one is that one. -/
theorem mhs_sub {P : List (List Int)} {T t : List Int} (h : MHS P T) (hs : ∀ x ∈ t, x ∈ T) (hh : HitAll P t) : ∀ x ∈ T, x ∈ t := fun x hx => by
  obtain ⟨s, hsP, hxs, hu⟩ := h.2.2 x hx
  obtain ⟨y, hy, hyt⟩ := hh s hsP
  rw [← hu y hy (hs y hyt)]
  exact hyt

theorem trStep_all {P out : List (List Int)} {s : List Int} (h : IsAll P out) : IsAll (P ++ [s]) (trStep out s) := by
  obtain ⟨n1, n2, _⟩ := trNx_spec out s
  have hmin := lstL_min (trNx out s)
  have hel : ∀ x ∈ trNx out s, Inc x ∧ HitAll (P ++ [s]) x := by
    intro x hx
    obtain ⟨o, ho, he⟩ := (n2 x).1 hx
    obtain ⟨i1, i2, _⟩ := (h.2 o).1 ho
    rcases he with ⟨hm, rfl⟩ | ⟨hm, n, hn, rfl⟩
    · refine ⟨i1, fun t ht => ?_⟩
      rcases List.mem_append.1 ht with ht | ht
      · exact i2 t ht
      · rw [List.mem_singleton.1 ht]; obtain ⟨y, h1, h2⟩ := hm; exact ⟨y, h2, h1⟩
    · refine ⟨inc_addL i1 n, fun t ht => ?_⟩
      rcases List.mem_append.1 ht with ht | ht
      · obtain ⟨y, h1, h2⟩ := i2 t ht
        exact ⟨y, h1, (mem_addL _ _ _).2 (.inl h2)⟩
      · rw [List.mem_singleton.1 ht]; exact ⟨n, hn, (mem_addL _ _ _).2 (.inr rfl)⟩
  have hcov : ∀ T, Inc T → HitAll (P ++ [s]) T → ∃ t ∈ trNx out s, ∀ x ∈ t, x ∈ T := by
    intro T hT hh
    obtain ⟨o, ho, hs⟩ := mhs_inside (P := P) T.length T (Nat.le_refl _) hT (fun t ht => hh t (List.mem_append_left _ ht))
    have hoo := (h.2 o).2 ho
    by_cases hm : Meet o s
    · exact ⟨o, (n2 o).2 ⟨o, hoo, .inl ⟨hm, rfl⟩⟩, hs⟩
    · obtain ⟨n, hn, hnT⟩ := hh s (List.mem_append_right _ (by simp))
      refine ⟨addL o n, (n2 _).2 ⟨o, hoo, .inr ⟨hm, n, hn, rfl⟩⟩, fun x hx => ?_⟩
      rcases (mem_addL _ _ _).1 hx with hx | rfl
      · exact hs x hx
      · exact hnT
  refine ⟨hmin.1, fun T => (hmin.2 T).trans ⟨fun ⟨hT, hno⟩ => ?_, fun hT => ?_⟩⟩
  · obtain ⟨i1, i2⟩ := hel T hT
    obtain ⟨o, ho, hs⟩ := mhs_inside T.length T (Nat.le_refl _) i1 i2
    obtain ⟨t, ht, hts⟩ := hcov o ho.1 ho.2.1
    have htT : ∀ x ∈ t, x ∈ T := fun x hx => hs x (hts x hx)
    have hlen : T.length ≤ t.length := by
      rcases Nat.lt_or_ge t.length T.length with hlt | hge
      · exact absurd ⟨hlt, htT⟩ (hno t ht)
      · exact hge
    have e : t = T := sub_eq (hel t ht).1 i1 htT hlen
    have e2 : o = T := inc_unique ho.1 i1 fun x => ⟨hs x, fun hx => hts x (by rw [e]; exact hx)⟩
    rw [← e2]; exact ho
  · obtain ⟨t, ht, hts⟩ := hcov T hT.1 hT.2.1
    have hsub := fun (u : List Int) (hu : u ∈ trNx out s) (hus : ∀ x ∈ u, x ∈ T) => mhs_sub hT hus (hel u hu).2
    have e : t = T := inc_unique (hel t ht).1 hT.1 fun x => ⟨hts x, hsub t ht hts x⟩
    refine ⟨by rw [← e]; exact ht, fun u hu hp => ?_⟩
    have := sub_len hT.1 (hsub u hu hp.2)
    have := hp.1
    omega
theorem isAll_nil : IsAll [] [[]] := by
  refine ⟨by simp, fun T => ?_⟩
  rw [List.mem_singleton]
  constructor
  · rintro rfl; exact ⟨List.Pairwise.nil, fun _ h => (by cases h), fun _ h => (by cases h)⟩
  · rintro ⟨_, _, h⟩
    match T, h with
    | [], _ => rfl
    | x :: T, h => obtain ⟨s, hs, _⟩ := h x (by simp); cases hs
theorem trL_all (L : List (List Int)) : ∀ k ≤ L.length, IsAll (L.take k) (trL (L.take k))
  | 0, _ => by simpa [trL] using isAll_nil
  | k + 1, hk => by
    obtain ⟨s, hs⟩ := get_some (l := L) (k := k) (by omega)
    rw [trL_succ hs, take_snoc hs]
    exact trStep_all (trL_all L k (by omega))

/-! ### Sizes -/
def ways (L : List (List Int)) : Nat := L.foldl (fun n s => n * max 1 s.length) 1
theorem ways_succ {L : List (List Int)} {k : Nat} {s : List Int} (h : L[k]? = some s) : ways (L.take (k + 1)) = ways (L.take k) * max 1 s.length := by
  rw [take_snoc h]; simp [ways]
/-- Few sets with few choices. -/
def Tame (L : List (List Int)) : Prop := Few L 12 ∧ ∀ k ≤ L.length, ways (L.take k) ≤ 2000
theorem trL_len (L : List (List Int)) : ∀ k ≤ L.length, (trL (L.take k)).length ≤ ways (L.take k)
  | 0, _ => by simp [trL, ways]
  | k + 1, hk => by
    obtain ⟨s, hs⟩ := get_some (l := L) (k := k) (by omega)
    rw [trL_succ hs, ways_succ hs]
    have h1 := trL_len L k (by omega)
    have h2 := lstL_len (trNx (trL (L.take k)) s) (trNx (trL (L.take k)) s)
    have h3 := (trNx_spec (trL (L.take k)) s).2.2
    exact Nat.le_trans h2 (Nat.le_trans h3 (Nat.mul_le_mul_right _ h1))
theorem trEl_len {s o x : List Int} (h : TrEl s o x) : x.length ≤ o.length + 1 := by
  rcases h with ⟨_, rfl⟩ | ⟨_, n, _, rfl⟩
  · omega
  · exact len_addL o n
theorem trL_elen (L : List (List Int)) : ∀ k ≤ L.length, ∀ x ∈ trL (L.take k), x.length ≤ k
  | 0, _, x, hx => by simp [trL] at hx; simp [hx]
  | k + 1, hk, x, hx => by
    obtain ⟨s, hs⟩ := get_some (l := L) (k := k) (by omega)
    rw [trL_succ hs] at hx
    have h1 := ((lstL_min (trNx (trL (L.take k)) s)).2 x).1 hx
    obtain ⟨o, ho, he⟩ := ((trNx_spec (trL (L.take k)) s).2.1 x).1 h1.1
    have := trL_elen L k (by omega) o ho
    have := trEl_len he
    omega
end Go.Proofs.YtbmdfnifbimfmaaGreatDoor
