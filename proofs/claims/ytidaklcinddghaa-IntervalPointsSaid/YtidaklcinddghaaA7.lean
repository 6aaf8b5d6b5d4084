import Derived.Test.YtidaklcinddghaaA6
namespace Go.Proofs.Ytidaklcinddghaa
open Go.RowKit Go.Shelf

theorem neq_int_true {a b : Int} (h : a ≠ b) : (a != b) = true := by simp [h]
theorem neq_int_false {a b : Int} (h : a = b) : (a != b) = false := by simp [h]

/-- cmp.Or at two errors. -/
def orE (a b : Int) : Int := if a = 0 then b else a

theorem or_any (g : Nat) (a b : Int) (w : World) (h0 : w.cell? ⟨g, 0, none⟩ = some (.int .i64 a)) (h1 : w.cell? ⟨g, 1, none⟩ = some (.int .i64 b)) :
    Calls Try.prog 35 #[.slice (some ⟨g, 0, none⟩) 2 2] w fun r w' => r = .returned (.int .i64 (orE a b)) ∧ Below w.heap.size w w' := by
  have HW : Hid (orE a b = if a = 0 then b else a) := Lib.hid rfl
  generalize orE a b = z at *
  go_enter Try.func35, Try.ntmps35
  go_wp2
  go_loop [8] (fun i => ∃ k : Nat, k ≤ 2 ∧ i = .int .i64 k ∧ (1 ≤ k → a = 0) ∧ (2 ≤ k → b = 0)) (fun i => 2 - (intOf i).toNat)
  case atStart => exact ⟨0, by omega, rfl, by omega, by omega⟩
  case round =>
    obtain ⟨k, hk, rfl, ha, hb⟩ := hrel
    have HA := Lib.hid ha
    have HB := Lib.hid hb
    clear ha hb
    match k, hk with
    | 0, _ =>
      by_cases h : a = 0
      · have h' := neq_int_false h
        have H := Lib.hid h
        clear h
        go_wp2
        go_round
        case rel => exact ⟨1, by omega, rfl, fun _ => H.out, by omega⟩
        case measure => simp [intOf]
      · have h' := neq_int_true h
        go_wp2
        go_ret
        exact ⟨ret_int (by rw [HW.out, if_neg h]), Below.refl _ _⟩
    | 1, _ =>
      by_cases h : b = 0
      · have h' := neq_int_false h
        have H := Lib.hid h
        clear h
        go_wp2
        go_round
        case rel => exact ⟨2, by omega, rfl, fun _ => HA.out (by omega), fun _ => H.out⟩
        case measure => simp [intOf]
      · have h' := neq_int_true h
        go_wp2
        go_ret
        exact ⟨ret_int (by rw [HW.out, if_pos (HA.out (by omega))]), Below.refl _ _⟩
    | 2, _ =>
      go_wp2
      go_ret
      exact ⟨ret_int (by rw [HW.out, if_pos (HA.out (by omega)), HB.out (by omega)]), Below.refl _ _⟩

/-- What Union computes, where the sorted list is l'. -/
def RetUnionL (w : World) (l : List (Int × Int)) (e : Ending) (w' : World) : Prop :=
  ∃ v, ∃ l' : List (Int × Int), e = .returned (.tuple #[v, .int .i64 (chkAll l)]) ∧ (chkAll l = 0 → l'.Perm l ∧ l'.Pairwise (fun x y => x.1 ≤ y.1)) ∧ (chkAll l ≠ 0 → l' = []) ∧
    w'.ownsRow w.heap.size 23 2 v (joinL l').length ((joinL l').flatMap encIv) ∧ Below w.heap.size w w'

theorem own_sl {w : World} {base n₀ : Nat} {v : Value} {l : List (Int × Int)} (h : w.ownsRow base 23 2 v l.length (l.flatMap encIv)) (hn : w.heap.size ≤ n₀) : Sl w n₀ encIv 2 v l := by
  rcases h.2 with ⟨rfl, h0⟩ | ⟨g, cap, cur, rfl, hb, hg, hn', hm, hs, ht⟩
  · have : l = [] := List.eq_nil_of_length_eq_zero h0
    subst this
    exact Sl.nil _ _ _ _
  · refine ⟨_, cap, rfl, hn', hm, fun _ => ⟨g, 0, rfl, Nat.lt_of_lt_of_le (Array.getElem?_eq_some_iff.1 hg).1 hn, ?_⟩⟩
    intro i x hi j u hj
    have hj2 : j < 2 := by
      rcases Nat.lt_or_ge j 2 with h | h
      · exact h
      · rw [List.getElem?_eq_none (by simp [encIv]; exact h)] at hj; cases hj
    have hf := flatMap_get encIv 2 (fun _ => rfl) l i j x hi hj2
    rw [hj] at hf
    have := h.cells (g := g) rfl (i * 2 + j) u hf
    rw [add_lit] at this
    rw [← this]
    congr 2
    omega

theorem joinL_len : ∀ l : List (Int × Int), (joinL l).length ≤ l.length
  | [] => Nat.le_refl _
  | x :: r => by
    have go : ∀ (r : List (Int × Int)) (x : Int × Int), (joinGo x r).length ≤ r.length + 1 := by
      intro r
      induction r with
      | nil => intro x; simp [joinGo]
      | cons y r ih =>
        intro x
        unfold joinGo
        split
        · exact Nat.le_trans (ih _) (by simp)
        · simp; exact ih _
    simpa [joinL] using go r x

set_option maxHeartbeats 1000000 in
theorem Union_any (v : Value) (l : List (Int × Int)) (w : World) (h : SlIv w v l) (hlen : l.length ≤ 1000000) :
    Calls Try.prog 11 #[v] w (RetUnionL w l) := by
  have H := Lib.hid h
  clear h
  generalize hk : chkAll l = k
  by_cases hk0 : k = 0
  · have HK := Lib.hid hk
    have hk1 := neq_int_false hk0
    subst hk0
    clear hk
    go_enter Try.func11, Try.ntmps11
    go_wp2_with fail
    refine (checkAll_any _ l _ H.out).mono ?_
    rintro e w1 ⟨rfl, hB1⟩
    rw [HK.out]
    go_wp2_with fail
    refine (union_any _ l _ ((H.out.below hB1).more hB1.size) hlen).mono ?_
    rintro e w2 ⟨rfl, v2, l', hp, hs, hbox, hrow, hB2⟩
    have HS := Lib.hid hs
    have HR := Lib.hid hrow
    clear hs hrow
    go_wp2_with fail
    obtain ⟨b, hb, _, _, hseq⟩ := union2_seq _ v2 l' (fun x hx => ok_of_chkAll HK.out x (hp.subset hx)) w2 hbox.cell hbox.lt (own_sl HR.out (Nat.le_refl _))
    refine (collect_any 47 _ Ok b (joinL l') _ eg47 hseq hb (Nat.le_trans (joinL_len _) (by rw [hp.length_eq]; exact hlen))).mono ?_
    clear hseq
    rintro e w3 ⟨v3, rfl, hrow3, hB3⟩
    have HR3 := Lib.hid hrow3
    clear hrow3
    go_wp2_with fail
    go_ret2
    have hB12 := bAfter hB1 hB2
    refine ⟨v3, l', by rw [HK.out]; rfl, fun _ => ⟨hp, HS.out⟩, fun h => absurd HK.out h, ?_, bAfter hB12 hB3⟩
    have hr := HR3.out
    refine ⟨hr.1, ?_⟩
    rcases hr.2 with h | ⟨g, cap, cur, h1, h2, h3⟩
    · exact .inl h
    · exact .inr ⟨g, cap, cur, h1, by have := hB12.size; omega, h3⟩
  · have HK := Lib.hid hk
    have hk1 := neq_int_true hk0
    clear hk
    go_enter Try.func11, Try.ntmps11
    go_wp2_with fail
    refine (checkAll_any _ l _ H.out).mono ?_
    rintro e w1 ⟨rfl, hB1⟩
    rw [HK.out]
    go_wp2_with fail
    go_ret2
    exact ⟨_, [], by rw [HK.out]; rfl, fun h => absurd (HK.out.symm.trans h) hk0, fun _ => rfl, World.ownsRow_nil _ _ _ _, hB1⟩
end Go.Proofs.Ytidaklcinddghaa
