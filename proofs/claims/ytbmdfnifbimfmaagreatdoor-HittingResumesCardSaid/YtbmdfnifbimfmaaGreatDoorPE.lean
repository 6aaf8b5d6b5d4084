/- Plain: what Give answers is an accepted search. -/
import Derived.Test.YtbmdfnifbimfmaaGreatDoorC8
namespace Go.Proofs.YtbmdfnifbimfmaaGreatDoor
open Go.RowKit Go.Shelf

theorem rank_le (F : List (List Int)) (t : List Int) : rank F t ≤ F.length := List.countP_le_length
theorem rank_spec (t : List Int) : ∀ {F : List (List Int)}, F.Pairwise ltS → (∀ x ∈ F.take (rank F t), ltS x t) ∧ ∀ x ∈ F.drop (rank F t), ¬ ltS x t
  | [], _ => ⟨fun _ h => by simp at h, fun _ h => by simp at h⟩
  | a :: F, h => by
    obtain ⟨h1, h2⟩ := List.pairwise_cons.1 h
    by_cases ha : ltS a t
    · have e : rank (a :: F) t = rank F t + 1 := List.countP_cons_of_pos (p := fun x => bOf (ltS x t)) (bOf_true ha)
      obtain ⟨i1, i2⟩ := rank_spec t h2
      rw [e, List.take_succ_cons, List.drop_succ_cons]
      refine ⟨fun x hx => ?_, i2⟩
      rcases List.mem_cons.1 hx with rfl | hx
      · exact ha
      · exact i1 x hx
    · have hn : ∀ x ∈ a :: F, ¬ ltS x t := fun x hx => by
        rcases List.mem_cons.1 hx with rfl | hx
        · exact ha
        · exact fun hlt => ha (ltS_trans (h1 x hx) hlt)
      have e : rank (a :: F) t = 0 := by unfold rank; rw [List.countP_eq_zero]; intro x hx; rw [bOf_false (hn x hx)]; decide
      rw [e]
      exact ⟨fun _ h => by simp at h, fun x hx => hn x (by simpa using hx)⟩
theorem mem_insAt_iff {α : Type} {l : List α} {k : Nat} {x p : α} : p ∈ insAt l k x ↔ p = x ∨ p ∈ l := by
  unfold insAt
  rw [List.mem_append, List.mem_cons]
  constructor
  · rintro (h | h | h)
    · exact .inr (List.mem_of_mem_take h)
    · exact .inl h
    · exact .inr (List.mem_of_mem_drop h)
  · rintro (h | h)
    · exact .inr (.inl h)
    · rw [← List.take_append_drop k l] at h
      rcases List.mem_append.1 h with h | h
      · exact .inl h
      · exact .inr (.inr h)
theorem fok_ins {F : List (List Int)} {t : List Int} (h : FOK F) (hn : t ∉ F) (hp : ∀ f ∈ F, ¬ PSub f t ∧ ¬ PSub t f) : FOK (insAt F (rank F t) t) := by
  have hs : F.Pairwise ltS := h.imp fun hab => hab.1
  obtain ⟨h1, h2⟩ := rank_spec t hs
  unfold FOK insAt
  unfold FOK at h
  have hd : ∀ x ∈ F.drop (rank F t), ltS t x := fun x hx => by
    rcases ltS_total x t with hlt | rfl | hlt
    · exact absurd hlt (h2 x hx)
    · exact absurd (List.mem_of_mem_drop hx) hn
    · exact hlt
  have hc : (F.take (rank F t) ++ F.drop (rank F t)).Pairwise fun a b => ltS a b ∧ ¬ PSub a b := by rw [List.take_append_drop]; exact h
  obtain ⟨c1, c2, c3⟩ := List.pairwise_append.1 hc
  refine List.pairwise_append.2 ⟨c1, List.pairwise_cons.2 ⟨fun x hx => ⟨hd x hx, (hp x (List.mem_of_mem_drop hx)).2⟩, c2⟩, fun a ha b hb => ?_⟩
  rcases List.mem_cons.1 hb with rfl | hb
  · exact ⟨h1 a ha, (hp a (List.mem_of_mem_take ha)).1⟩
  · exact c3 a ha b hb

theorem cntLt_spec (x : Int) : ∀ {l : List Int}, Inc l → (∀ y ∈ l.take (cntLt l x), y < x) ∧ ∀ y ∈ l.drop (cntLt l x), ¬ y < x
  | [], _ => ⟨fun _ h => by simp at h, fun _ h => by simp at h⟩
  | a :: l, h => by
    obtain ⟨h1, h2⟩ := List.pairwise_cons.1 h
    by_cases ha : a < x
    · have e : cntLt (a :: l) x = cntLt l x + 1 := by unfold cntLt; rw [List.countP_cons_of_pos (by simpa using ha)]
      obtain ⟨i1, i2⟩ := cntLt_spec x h2
      rw [e, List.take_succ_cons, List.drop_succ_cons]
      refine ⟨fun y hy => ?_, i2⟩
      rcases List.mem_cons.1 hy with rfl | hy
      · exact ha
      · exact i1 y hy
    · have hn : ∀ y ∈ a :: l, ¬ y < x := fun y hy => by
        rcases List.mem_cons.1 hy with rfl | hy
        · exact ha
        · have := h1 y hy; omega
      have e : cntLt (a :: l) x = 0 := by unfold cntLt; rw [List.countP_eq_zero]; intro y hy; have := hn y hy; simpa using this
      rw [e]
      exact ⟨fun _ h => by simp at h, fun y hy => hn y (by simpa using hy)⟩
theorem brL_mem {out : List Int} {x y : Int} : y ∈ brL out x ↔ y = x ∨ y ∈ out := mem_insAt_iff
theorem brL_len (out : List Int) (x : Int) : (brL out x).length = out.length + 1 := insAt_len _ _ _ (cntLt_le _ _)
theorem brL_inc {out : List Int} {x : Int} (h : Inc out) (hx : x ∉ out) : Inc (brL out x) := by
  obtain ⟨h1, h2⟩ := cntLt_spec x h
  unfold brL insAt
  have hd : ∀ y ∈ out.drop (cntLt out x), x < y := fun y hy => by
    have := h2 y hy
    have : y ≠ x := fun e => hx (e ▸ List.mem_of_mem_drop hy)
    omega
  have hc : Inc (out.take (cntLt out x) ++ out.drop (cntLt out x)) := by rw [List.take_append_drop]; exact h
  obtain ⟨c1, c2, c3⟩ := List.pairwise_append.1 hc
  refine List.pairwise_append.2 ⟨c1, List.pairwise_cons.2 ⟨hd, c2⟩, fun a ha b hb => ?_⟩
  rcases List.mem_cons.1 hb with rfl | hb
  · exact h1 a ha
  · exact c3 a ha b hb
theorem brL_valid {out t : List Int} (ho : Valid out) (ht : Valid t) (hm : ¬ Meet t out) {x : Int} (hx : x ∈ t) : Valid (brL out x) :=
  ⟨fun y hy => by
    rcases brL_mem.1 hy with rfl | hy
    · exact ht.1 y hx
    · exact ho.1 y hy, brL_inc ho.2 fun h => hm ⟨x, hx, h⟩⟩
theorem newO_mem {O' : List (List Int)} {out t b : List Int} : b ∈ newO O' out t ↔ (∃ x ∈ t, b = brL out x) ∧ b ∉ O' := by
  unfold newO
  rw [List.mem_filter, List.mem_map]
  constructor
  · rintro ⟨⟨x, hx, rfl⟩, h⟩
    refine ⟨⟨x, hx, rfl⟩, fun hb => ?_⟩
    rw [bOf_true hb] at h; cases h
  · rintro ⟨⟨x, hx, rfl⟩, h⟩
    exact ⟨⟨x, hx, rfl⟩, by rw [bOf_false h]; rfl⟩
theorem newO_nodup {O' : List (List Int)} {out t : List Int} (ht : Inc t) (hm : ¬ Meet t out) : (newO O' out t).Nodup := by
  unfold newO
  refine List.Nodup.sublist List.filter_sublist ?_
  rw [List.nodup_iff_pairwise_ne, List.pairwise_map]
  refine List.Pairwise.imp_of_mem (R := fun a b => a < b) (fun {a b} ha hb hlt e => ?_) ht
  have h1 : a ∈ brL out b := by rw [← e]; exact brL_mem.2 (.inl rfl)
  rcases brL_mem.1 h1 with h | h
  · omega
  · exact hm ⟨a, ha, h⟩

theorem ook_next {O' : List (List Int)} {out t : List Int} (h : OOK (out :: O') (out :: O')) (ht : Inc t) (hm : ¬ Meet t out) : OOK (O' ++ newO O' out t) (O' ++ newO O' out t) := by
  obtain ⟨h1, h2, h3⟩ := h
  obtain ⟨h1a, h1b⟩ := List.nodup_cons.1 h1
  obtain ⟨h2a, h2b⟩ := List.pairwise_cons.1 h2
  have hl : ∀ b ∈ newO O' out t, b.length = out.length + 1 := fun b hb => by
    obtain ⟨⟨x, _, rfl⟩, _⟩ := newO_mem.1 hb
    exact brL_len _ _
  have hl' : ∀ b ∈ O', b.length ≤ out.length + 1 := fun b hb => by
    have := h3 b (by simp [hb]); simpa using this
  have hhd : ∀ b ∈ O' ++ newO O' out t, b.length ≤ out.length + 1 := fun b hb => by
    rcases List.mem_append.1 hb with hb | hb
    · exact hl' b hb
    · exact Nat.le_of_eq (hl b hb)
  refine ⟨List.nodup_append.2 ⟨h1b, newO_nodup ht hm, fun a ha b hb e => ?_⟩, List.pairwise_append.2 ⟨h2b, ?_, fun a ha b hb => ?_⟩, fun b hb => ?_⟩
  · subst e; exact (newO_mem.1 hb).2 ha
  · exact List.pairwise_of_forall_mem_list fun a ha b hb => by rw [hl a ha, hl b hb]; exact Nat.le_refl _
  · rw [hl b hb]; exact hl' a ha
  · refine Nat.le_trans (hhd b hb) ?_
    have hne : O' ++ newO O' out t ≠ [] := fun e => by rw [e] at hb; cases hb
    obtain ⟨c, r, hcr⟩ := List.exists_cons_of_ne_nil hne
    have hc : c ∈ O' ++ newO O' out t := by rw [hcr]; simp
    rw [hcr]
    simp only [List.headD_cons]
    rcases List.mem_append.1 hc with h | h
    · have := h2a c h; omega
    · rw [hl c h]; omega
theorem ook_tail {O' : List (List Int)} {out : List Int} (h : OOK (out :: O') (out :: O')) : OOK O' O' := by
  have := ook_next (t := []) h List.Pairwise.nil (fun ⟨x, hx, _⟩ => nomatch hx)
  simpa [newO] using this

/-- The search that Give answers is accepted. -/
theorem give_ok {s : Sr} {t : List Int} {n : Bool} (hb : ¬ GiveBad s t n) (hf : ¬ GiveFull s t n) (hsp : s.sp ≠ 1073741824) : SrOk (giveS s t n) := by
  have hok : SrOk s := Classical.byContradiction fun h => hb (.inl h)
  have hO : s.O.length ≠ 0 := fun h => hb (.inr (.inl h))
  obtain ⟨out, O', hOO⟩ : ∃ out O', s.O = out :: O' := by
    cases h : s.O with
    | nil => rw [h] at hO; exact absurd rfl hO
    | cons a b => exact ⟨a, b, rfl⟩
  have hvo := hok.vO
  rw [hOO] at hvo
  have hspr := hok.sp
  have hook := hok.ook
  rw [hOO] at hook
  cases n with
  | true =>
    unfold giveS
    rw [if_pos rfl, hOO]
    exact ⟨hok.vF, fun l hl => hvo l (by simp at hl; simp [hl]), hok.lF, hok.fok, by simpa using ook_tail hook, by simp only; omega, rfl⟩
  | false =>
    have hp : ¬ PlaceBad s.F (s.O.headD []) t := fun h => hb (.inr (.inr (.inr ⟨rfl, h⟩)))
    rw [hOO] at hp
    simp only [List.headD_cons] at hp
    have hvt : Valid t := Classical.byContradiction fun h => hp (.inl h)
    have hm : ¬ Meet t out := fun h => hp (.inr (.inl h))
    have hps : ∀ f ∈ s.F, ¬ PSub f t ∧ ¬ PSub t f := fun f hf => ⟨fun h => hp (.inr (.inr ⟨f, hf, .inl h⟩)), fun h => hp (.inr (.inr ⟨f, hf, .inr h⟩))⟩
    unfold giveS
    rw [if_neg (by decide), hOO]
    have hvO : ValidAll (O' ++ newO O' out t) := fun l hl => by
      rcases List.mem_append.1 hl with hl | hl
      · exact hvo l (by simp [hl])
      · obtain ⟨⟨x, hx, rfl⟩, _⟩ := newO_mem.1 hl
        exact brL_valid (hvo out (by simp)) hvt hm hx
    by_cases hin : t ∈ s.F
    · rw [if_pos (bOf_true hin)]
      exact ⟨hok.vF, hvO, hok.lF, hok.fok, ook_next hook hvt.2 hm, by simp only; omega, rfl⟩
    · rw [if_neg (by rw [bOf_false hin]; decide)]
      refine ⟨fun l hl => ?_, hvO, ?_, fok_ins hok.fok hin hps, ook_next hook hvt.2 hm, by simp only; omega, rfl⟩
      · rcases mem_insAt_iff.1 hl with rfl | hl
        · exact hvt
        · exact hok.vF l hl
      · have : ¬ 256 ≤ s.F.length := fun h => hf ⟨rfl, hin, h⟩
        show (insAt s.F (rank s.F t) t).length ≤ 256
        rw [insAt_len _ _ _ (rank_le _ _)]; omega

/-- What an answer keeps. -/
structure Kept (s x : Sr) (t : List Int) (n : Bool) : Prop where
  ne : s.O.length ≠ 0
  ok : SrOk s
  okx : SrOk x
  sp : x.sp = s.sp + 1
  len : s.O.length - 1 ≤ x.O.length
  same : x.O.take (s.O.length - 1) = s.O.drop 1
  found : ∀ y ∈ s.F, y ∈ x.F
  none : n = true → x.O.length = s.O.length - 1 ∧ x.F.length = s.F.length
  new : n = false → ∀ b ∈ x.O.drop (s.O.length - 1), b.length = (s.O.headD []).length + 1 ∧ Sub (s.O.headD []) b ∧ Meet b t
  has : n = false → t ∈ x.F ∧ ¬ Meet t (s.O.headD [])
  big : x.O.length ≤ s.O.length + t.length
theorem give_kept {s : Sr} {t : List Int} {n : Bool} (hb : ¬ GiveBad s t n) (hf : ¬ GiveFull s t n) (hsp : s.sp ≠ 1073741824) : Kept s (giveS s t n) t n := by
  have hok : SrOk s := Classical.byContradiction fun h => hb (.inl h)
  have hO : s.O.length ≠ 0 := fun h => hb (.inr (.inl h))
  have hx := give_ok hb hf hsp
  have htl : s.O.tail.length = s.O.length - 1 := by simp
  cases n with
  | true =>
    refine ⟨hO, hok, hx, rfl, ?_, ?_, ?_, fun _ => ⟨?_, rfl⟩, fun h => (nomatch h), fun h => (nomatch h), ?_⟩
    · show s.O.length - 1 ≤ s.O.tail.length; omega
    · show s.O.tail.take _ = _; rw [← htl, List.take_length, List.drop_one]
    · exact fun y hy => hy
    · show s.O.tail.length = _; omega
    · show s.O.tail.length ≤ _; omega
  | false =>
    have hp : ¬ PlaceBad s.F (s.O.headD []) t := fun h => hb (.inr (.inr (.inr ⟨rfl, h⟩)))
    have hxF : (giveS s t false).F = if bOf (t ∈ s.F) then s.F else insAt s.F (rank s.F t) t := rfl
    have hxO : (giveS s t false).O = s.O.tail ++ newO s.O.tail (s.O.headD []) t := rfl
    refine ⟨hO, hok, hx, rfl, ?_, ?_, fun y hy => ?_, fun h => (nomatch h), fun _ b hbm => ?_, fun _ => ⟨?_, fun h => hp (.inr (.inl h))⟩, ?_⟩
    · rw [hxO, List.length_append]; omega
    · rw [hxO, ← htl, List.take_left', List.drop_one]; rfl
    · rw [hxF]
      by_cases hin : t ∈ s.F
      · rw [if_pos (bOf_true hin)]; exact hy
      · rw [if_neg (by rw [bOf_false hin]; decide)]; exact mem_insAt_iff.2 (.inr hy)
    · rw [hxO, ← htl, List.drop_left'] at hbm
      · obtain ⟨⟨x, hx, rfl⟩, _⟩ := newO_mem.1 hbm
        exact ⟨brL_len _ _, fun y hy => brL_mem.2 (.inr hy), x, brL_mem.2 (.inl rfl), hx⟩
      · rfl
    · rw [hxF]
      by_cases hin : t ∈ s.F
      · rw [if_pos (bOf_true hin)]; exact hin
      · rw [if_neg (by rw [bOf_false hin]; decide)]; exact mem_insAt_iff.2 (.inl rfl)
    · have h1 : (newO s.O.tail (s.O.headD []) t).length ≤ t.length := by
        unfold newO; exact Nat.le_trans (List.length_filter_le _ _) (by simp)
      rw [hxO, List.length_append]; omega
end Go.Proofs.YtbmdfnifbimfmaaGreatDoor
