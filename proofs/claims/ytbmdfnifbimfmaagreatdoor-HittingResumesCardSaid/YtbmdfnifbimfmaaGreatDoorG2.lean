/- The plain law of the search. -/
import Derived.Test.YtbmdfnifbimfmaaGreatDoorF2
import Derived.Test.YtbmdfnifbimfmaaGreatDoorG1
namespace Go.Proofs.YtbmdfnifbimfmaaGreatDoor

/-- T is a minimal hitting set of S, as a set. -/
def MHS (S : List (List Int)) (T : List Int) : Prop := Inc T ∧ (∀ s ∈ S, ∃ x ∈ s, x ∈ T) ∧ ∀ x ∈ T, ∃ s ∈ S, x ∈ s ∧ ∀ y ∈ s, y ∈ T → y = x
/-- .. that consists of now and of free elements. -/
def QM (S : List (List Int)) (now : List Int) (fr : Int → Bool) (T : List Int) : Prop := MHS S T ∧ (∀ x ∈ now, x ∈ T) ∧ ∀ x ∈ T, x ∈ now ∨ fr x = true
def Outs (S : List (List Int)) (now : List Int) (fr : Int → Bool) (ys : List (List Int)) : Prop := ys.Nodup ∧ ∀ T, T ∈ ys ↔ QM S now fr T
def Part (S : List (List Int)) (now : List Int) (fr : Int → Bool) (ys : List (List Int)) : Prop := ys.Nodup ∧ ∀ T ∈ ys, QM S now fr T
theorem Outs.part {S : List (List Int)} {now : List Int} {fr : Int → Bool} {ys : List (List Int)} (h : Outs S now fr ys) : Part S now fr ys := ⟨h.1, fun T hT => (h.2 T).1 hT⟩

theorem cnt_pos {now s : List Int} : 0 < cnt now s ↔ ∃ x ∈ now, x ∈ s := by
  unfold cnt
  rw [List.length_pos_iff_exists_mem]
  simp
theorem cnt_zero {now s : List Int} : cnt now s = 0 ↔ ∀ x ∈ now, x ∉ s := by
  have := @cnt_pos now s
  constructor
  · intro h x hx hs
    have := this.2 ⟨x, hx, hs⟩
    omega
  · intro h
    rcases Nat.eq_zero_or_pos (cnt now s) with h0 | h0
    · exact h0
    · obtain ⟨x, hx, hs⟩ := this.1 h0
      exact absurd hs (h x hx)
theorem cnt_one {now s : List Int} (h : cnt now s = 1) {x y : Int} (hx : x ∈ now) (hxs : x ∈ s) (hy : y ∈ now) (hys : y ∈ s) : y = x := by
  unfold cnt at h
  obtain ⟨z, hz⟩ := List.length_eq_one_iff.1 h
  have h1 : x ∈ now.filter (· ∈ s) := List.mem_filter.2 ⟨hx, by simpa using hxs⟩
  have h2 : y ∈ now.filter (· ∈ s) := List.mem_filter.2 ⟨hy, by simpa using hys⟩
  rw [hz] at h1 h2
  rw [List.mem_singleton.1 h1, List.mem_singleton.1 h2]
theorem cnt_one_of {now s : List Int} (hn : now.Nodup) {x : Int} (hx : x ∈ now) (hxs : x ∈ s) (h : ∀ y ∈ now, y ∈ s → y = x) : cnt now s = 1 := by
  have h1 : 0 < cnt now s := cnt_pos.2 ⟨x, hx, hxs⟩
  have h2 : cnt now s ≤ 1 := by
    unfold cnt
    have := nodup_len (a := now.filter (· ∈ s)) (b := [x]) (List.Pairwise.filter _ hn) (fun y hy => by
      have := List.mem_filter.1 hy
      exact List.mem_singleton.2 (h y this.1 (by simpa using this.2)))
    simpa using this
  omega

theorem cnt_snoc' (now s : List Int) (x : Int) : cnt (now ++ [x]) s = cnt now s + if x ∈ s then 1 else 0 := by
  unfold cnt
  rw [List.filter_append, List.length_append]
  by_cases h : x ∈ s <;> simp [h]
theorem sortI_mem (l : List Int) (x : Int) : x ∈ sortI l ↔ x ∈ l := by unfold sortI; exact List.mem_mergeSort
theorem sortI_inc {l : List Int} (h : l.Nodup) : Inc (sortI l) := by
  have h1 : (sortI l).Pairwise (fun x y => decide (x ≤ y) = true) := by
    unfold sortI
    exact List.pairwise_mergeSort (fun a b c h1 h2 => by simp at h1 h2 ⊢; omega) (fun a b => by simp; omega) l
  have h2 : (sortI l).Nodup := by unfold sortI; exact (List.mergeSort_perm l _).nodup_iff.2 h
  refine (h1.and h2).imp ?_
  rintro a b ⟨h3, h4⟩
  simp at h3
  omega
theorem sortI_len (l : List Int) : (sortI l).length = l.length := by unfold sortI; exact List.length_mergeSort _

section
variable {S : List (List Int)} {now : List Int} {fr : Int → Bool}
theorem leaf_outs (hn : now.Nodup) (hc : Crit S now) (hh : ∀ s ∈ S, 0 < cnt now s) : Outs S now fr [sortI now] := by
  refine ⟨by simp, fun T => ?_⟩
  rw [List.mem_singleton]
  constructor
  · rintro rfl
    refine ⟨⟨sortI_inc hn, fun s hs => ?_, fun x hx => ?_⟩, fun x hx => (sortI_mem _ _).2 hx, fun x hx => .inl ((sortI_mem _ _).1 hx)⟩
    · obtain ⟨x, h1, h2⟩ := cnt_pos.1 (hh s hs)
      exact ⟨x, h2, (sortI_mem _ _).2 h1⟩
    · rw [sortI_mem] at hx
      obtain ⟨s, hs, h1, h2⟩ := hc x hx
      exact ⟨s, hs, h2, fun y hy hyT => cnt_one h1 hx h2 ((sortI_mem _ _).1 hyT) hy⟩
  · rintro ⟨⟨h1, h2, h3⟩, h4, _⟩
    refine inc_unique h1 (sortI_inc hn) fun x => ?_
    rw [sortI_mem]
    constructor
    · intro hx
      obtain ⟨s, hs, hxs, hu⟩ := h3 x hx
      obtain ⟨y, hy, hys⟩ := cnt_pos.1 (hh s hs)
      rw [← hu y hys (h4 y hy)]
      exact hy
    · exact h4 x
theorem crit_of_q {T : List Int} (hn : now.Nodup) (h : QM S now fr T) : Crit S now := by
  intro x hx
  obtain ⟨⟨_, _, h3⟩, h4, _⟩ := h
  obtain ⟨s, hs, hxs, hu⟩ := h3 x (h4 x hx)
  exact ⟨s, hs, cnt_one_of hn hx hxs fun y hy hys => hu y hys (h4 y hy), hxs⟩

/-- What was handed out when the first k elements of l were tried. -/
def OutsK (S : List (List Int)) (now : List Int) (fr : Int → Bool) (l : List Int) (k : Nat) (ys : List (List Int)) : Prop := ys.Nodup ∧ ∀ T, T ∈ ys ↔ QM S now fr T ∧ (∃ x ∈ l.take k, x ∈ T) ∧ ∀ x ∈ l.drop k, x ∉ T
def frK (fr : Int → Bool) (l : List Int) (k : Nat) (x : Int) : Bool := fr x && !(decide (x ∈ l.drop k))
theorem outsK_zero (l : List Int) : OutsK S now fr l 0 [] := ⟨by simp, fun T => by simp⟩
theorem OutsK.part {l : List Int} {k : Nat} {ys : List (List Int)} (h : OutsK S now fr l k ys) : Part S now fr ys := ⟨h.1, fun T hT => ((h.2 T).1 hT).1⟩
theorem outsK_full {s l : List Int} {ys : List (List Int)} (hs : s ∈ S) (hc : cnt now s = 0) (hl : l = s.filter fun x => fr x) (h : OutsK S now fr l l.length ys) : Outs S now fr ys := by
  refine ⟨h.1, fun T => ?_⟩
  rw [h.2, List.take_length, List.drop_length]
  constructor
  · exact fun h => h.1
  · intro hq
    refine ⟨hq, ?_, by simp⟩
    obtain ⟨x, hxs, hxT⟩ := hq.1.2.1 s hs
    refine ⟨x, ?_, hxT⟩
    rw [hl, List.mem_filter]
    refine ⟨hxs, ?_⟩
    rcases hq.2.2 x hxT with h1 | h1
    · exact absurd hxs (cnt_zero.1 hc x h1)
    · exact h1
theorem inner_q {l : List Int} {k : Nat} {x : Int} (hx : l[k]? = some x) (hl : l.Nodup) (hfr : ∀ y ∈ l, fr y = true ∧ y ∉ now) (T : List Int) :
    QM S (now ++ [x]) (frK fr l k) T ↔ QM S now fr T ∧ x ∈ T ∧ ∀ y ∈ l.drop (k + 1), y ∉ T := by
  have hd : l.drop k = x :: l.drop (k + 1) := drop_cons hx
  have hxd : x ∉ l.drop (k + 1) := by
    have : (l.drop k).Nodup := hl.sublist (List.drop_sublist k l)
    rw [hd] at this
    exact (List.nodup_cons.1 this).1
  constructor
  · rintro ⟨h1, h2, h3⟩
    refine ⟨⟨h1, fun y hy => h2 y (by simp [hy]), fun y hy => ?_⟩, h2 x (by simp), fun y hy hyT => ?_⟩
    · rcases h3 y hy with h | h
      · rcases List.mem_append.1 h with h | h
        · exact .inl h
        · rw [List.mem_singleton.1 h]; exact .inr (hfr x (List.mem_of_getElem? hx)).1
      · unfold frK at h
        exact .inr (Bool.and_eq_true_iff.1 h).1
    · rcases h3 y hyT with h | h
      · rcases List.mem_append.1 h with h | h
        · exact (hfr y (List.mem_of_mem_drop hy)).2 h
        · rw [List.mem_singleton.1 h] at hy; exact hxd hy
      · unfold frK at h
        have := (Bool.and_eq_true_iff.1 h).2
        rw [hd] at this
        simp [hy] at this
  · rintro ⟨⟨h1, h2, h3⟩, h4, h5⟩
    refine ⟨h1, fun y hy => ?_, fun y hy => ?_⟩
    · rcases List.mem_append.1 hy with hy | hy
      · exact h2 y hy
      · rw [List.mem_singleton.1 hy]; exact h4
    · rcases h3 y hy with h | h
      · exact .inl (by simp [h])
      · by_cases hyx : y = x
        · exact .inl (by simp [hyx])
        · refine .inr ?_
          unfold frK
          rw [hd, h]
          have : y ∉ l.drop (k + 1) := fun h => h5 y h hy
          simp [hyx, this]
theorem outsK_step {l : List Int} {k : Nat} {x : Int} {ys zs : List (List Int)} (hx : l[k]? = some x) (hl : l.Nodup) (hfr : ∀ y ∈ l, fr y = true ∧ y ∉ now) (h : OutsK S now fr l k ys) (hz : Outs S (now ++ [x]) (frK fr l k) zs) : OutsK S now fr l (k + 1) (ys ++ zs) := by
  have hd : l.drop k = x :: l.drop (k + 1) := drop_cons hx
  refine ⟨List.nodup_append.2 ⟨h.1, hz.1, fun a ha b hb e => ?_⟩, fun T => ?_⟩
  · subst e
    have h1 := ((h.2 a).1 ha).2.2 x (by rw [hd]; simp)
    have h2 := ((inner_q hx hl hfr a).1 ((hz.2 a).1 hb)).2.1
    exact h1 h2
  · rw [List.mem_append, h.2, hz.2, inner_q hx hl hfr, take_snoc hx, hd]
    constructor
    · rintro (⟨h1, ⟨y, hy, hyT⟩, h3⟩ | ⟨h1, h2, h3⟩)
      · exact ⟨h1, ⟨y, by simp [hy], hyT⟩, fun z hz => h3 z (by simp [hz])⟩
      · exact ⟨h1, ⟨x, by simp, h2⟩, h3⟩
    · rintro ⟨h1, ⟨y, hy, hyT⟩, h3⟩
      by_cases hxT : x ∈ T
      · exact .inr ⟨h1, hxT, h3⟩
      · refine .inl ⟨h1, ⟨y, ?_, hyT⟩, fun z hz => ?_⟩
        · rcases List.mem_append.1 hy with hy | hy
          · exact hy
          · rw [List.mem_singleton.1 hy] at hyT; exact absurd hyT hxT
        · rcases List.mem_cons.1 hz with rfl | hz
          · exact hxT
          · exact h3 z hz
theorem outs_none {x : Int} {fr' : Int → Bool} (hn : (now ++ [x]).Nodup) (hc : ¬ Crit S (now ++ [x])) : Outs S (now ++ [x]) fr' [] := ⟨by simp, fun T => by
  constructor
  · intro h; cases h
  · intro h; exact absurd (crit_of_q hn h) hc⟩
theorem part_step {l : List Int} {k : Nat} {x : Int} {ys zs : List (List Int)} (hx : l[k]? = some x) (hl : l.Nodup) (hfr : ∀ y ∈ l, fr y = true ∧ y ∉ now) (h : OutsK S now fr l k ys) (hz : Part S (now ++ [x]) (frK fr l k) zs) : Part S now fr (ys ++ zs) := by
  have hd : l.drop k = x :: l.drop (k + 1) := drop_cons hx
  refine ⟨List.nodup_append.2 ⟨h.1, hz.1, fun a ha b hb e => ?_⟩, fun T hT => ?_⟩
  · subst e
    have h1 := ((h.2 a).1 ha).2.2 x (by rw [hd]; simp)
    have h2 := ((inner_q hx hl hfr a).1 (hz.2 a hb)).2.1
    exact h1 h2
  · rcases List.mem_append.1 hT with hT | hT
    · exact ((h.2 T).1 hT).1
    · exact ((inner_q hx hl hfr T).1 (hz.2 T hT)).1

/-- The sets that are not hit. -/
def unhit (S : List (List Int)) (now : List Int) : Nat := (S.filter fun s => decide (cnt now s = 0)).length
theorem unhit_step {s : List Int} {x : Int} (hs : s ∈ S) (hc : cnt now s = 0) (hx : x ∈ s) : unhit S (now ++ [x]) < unhit S now := by
  unfold unhit
  have h1 : (S.filter fun s => decide (cnt (now ++ [x]) s = 0)) = (S.filter fun s => decide (cnt now s = 0)).filter fun s => decide (x ∉ s) := by
    rw [List.filter_filter]
    congr 1
    funext t
    rw [cnt_snoc']
    by_cases h : x ∈ t <;> simp [h]
  rw [h1]
  refine List.length_filter_lt_length_iff_exists.2 ⟨s, List.mem_filter.2 ⟨hs, by simp [hc]⟩, by simp [hx]⟩
theorem unhit_le (S : List (List Int)) (now : List Int) : unhit S now ≤ S.length := List.length_filter_le _ _
end
end Go.Proofs.YtbmdfnifbimfmaaGreatDoor
