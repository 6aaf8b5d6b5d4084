/- Walks: add. -/
import Derived.Test.YtbmdfnifbimfmaaGreatDoorF2
import Derived.StillTailTactics
namespace Go.Proofs.YtbmdfnifbimfmaaGreatDoor
open Go.RowKit

/-! ### The counts -/
def hitsP (S : List (List Int)) (now : List Int) (n : Int) (t : List Int) : List Int := (List.range S.length).map fun i => (cnt now (S.getD i []) : Int) + if (i : Int) ∈ t then n else 0
theorem getD_of {S : List (List Int)} {i : Nat} {s : List Int} (h : S[i]? = some s) : S.getD i [] = s := by rw [List.getD_eq_getElem?_getD, h]; rfl
theorem hitsP_nil (S : List (List Int)) (now : List Int) (n : Int) : hitsP S now n [] = hitsL S now := by
  unfold hitsP hitsL
  apply List.ext_getElem?
  intro i
  rw [List.getElem?_map, List.getElem?_map]
  rcases Nat.lt_or_ge i S.length with h | h
  · obtain ⟨s, hs⟩ := get_some h
    rw [List.getElem?_range h, hs]
    simp [hs]
  · rw [List.getElem?_eq_none (by simpa using h), List.getElem?_eq_none h]; rfl
theorem hitsP_get {S : List (List Int)} {now : List Int} {n : Int} {t : List Int} {i : Nat} {s : List Int} (hs : S[i]? = some s) : (hitsP S now n t)[i]? = some ((cnt now s : Int) + if (i : Int) ∈ t then n else 0) := by
  unfold hitsP
  have h := (List.getElem?_eq_some_iff.1 hs).1
  rw [List.getElem?_map, List.getElem?_range h]
  simp [hs]
theorem hitsP_len (S : List (List Int)) (now : List Int) (n : Int) (t : List Int) : (hitsP S now n t).length = S.length := by simp [hitsP]
theorem hitsP_set {S : List (List Int)} {now : List Int} {n : Int} {t : List Int} {i : Nat} {s : List Int} (hs : S[i]? = some s) (_ : (i : Int) ∉ t) : (hitsP S now n t).set i ((cnt now s : Int) + n) = hitsP S now n (t ++ [(i : Int)]) := by
  apply List.ext_getElem?
  intro j
  rw [List.getElem?_set]
  rcases Nat.lt_or_ge j S.length with h | h
  · obtain ⟨r, hr⟩ := get_some h
    by_cases hij : i = j
    · subst hij
      rw [hs] at hr; injection hr with hr; subst hr
      rw [if_pos rfl, hitsP_len, if_pos h, hitsP_get hs, if_pos (by simp)]
    · rw [if_neg hij, hitsP_get hr, hitsP_get hr]
      have : ((j : Int) ∈ t ++ [(i : Int)]) ↔ (j : Int) ∈ t := by
        rw [List.mem_append, List.mem_singleton]
        constructor
        · rintro (h | h)
          · exact h
          · omega
        · exact .inl
      by_cases hjt : (j : Int) ∈ t
      · rw [if_pos hjt, if_pos (this.2 hjt)]
      · rw [if_neg hjt, if_neg (fun h => hjt (this.1 h))]
  · have hlt : ¬ i = j := fun e => by have := (List.getElem?_eq_some_iff.1 hs).1; omega
    rw [if_neg hlt, List.getElem?_eq_none (by rw [hitsP_len]; exact h), List.getElem?_eq_none (by rw [hitsP_len]; exact h)]
theorem cnt_snoc (now s : List Int) (x : Int) : cnt (now ++ [x]) s = cnt now s + if x ∈ s then 1 else 0 := by
  unfold cnt
  rw [List.filter_append, List.length_append]
  by_cases h : x ∈ s <;> simp [h]
theorem cnt_le (now s : List Int) : cnt now s ≤ now.length := List.length_filter_le _ _
theorem mem_idxs {S : List (List Int)} {x : Int} {i : Nat} {s : List Int} (hs : S[i]? = some s) : (i : Int) ∈ idxs S x ↔ x ∈ s := by
  unfold idxs
  rw [List.mem_map]
  constructor
  · rintro ⟨j, hj, e⟩
    have : j = i := by omega
    subst this
    have := (List.mem_filter.1 hj).2
    rw [getD_of hs] at this
    exact of_decide_eq_true this
  · intro h
    refine ⟨i, List.mem_filter.2 ⟨List.mem_range.2 (List.getElem?_eq_some_iff.1 hs).1, ?_⟩, rfl⟩
    rw [getD_of hs]; exact decide_eq_true h
theorem idxs_get {S : List (List Int)} {x : Int} {j : Nat} {v : Int} (h : (idxs S x)[j]? = some v) : ∃ i : Nat, v = i ∧ i < S.length ∧ v ∉ (idxs S x).take j := by
  have hm := List.mem_of_getElem? h
  unfold idxs at hm
  obtain ⟨i, hi, rfl⟩ := List.mem_map.1 hm
  refine ⟨i, rfl, List.mem_range.1 (List.mem_filter.1 hi).1, fun ht => ?_⟩
  have hnd : (idxs S x).Nodup := by
    unfold idxs
    refine List.Pairwise.map _ (fun a b (hab : a ≠ b) => ?_) (List.Pairwise.filter _ List.nodup_range)
    omega
  obtain ⟨k, hk, e⟩ := List.getElem_of_mem ht
  rw [List.length_take] at hk
  obtain ⟨hj, e2⟩ := List.getElem?_eq_some_iff.1 h
  rw [List.getElem_take] at e
  have := (List.getElem_inj hnd).1 (e.trans e2.symm)
  omega
theorem idxs_len (S : List (List Int)) (x : Int) : (idxs S x).length ≤ S.length := by
  unfold idxs
  rw [List.length_map]
  exact Nat.le_trans (List.length_filter_le _ _) (by simp)
theorem hitsP_up (S : List (List Int)) (now : List Int) (x : Int) : hitsP S now 1 (idxs S x) = hitsL S (now ++ [x]) := by
  rw [← hitsP_nil S (now ++ [x]) 0]
  apply List.ext_getElem?
  intro i
  rcases Nat.lt_or_ge i S.length with h | h
  · obtain ⟨s, hs⟩ := get_some h
    rw [hitsP_get hs, hitsP_get hs, cnt_snoc]
    by_cases hx : x ∈ s
    · rw [if_pos ((mem_idxs hs).2 hx), if_pos hx]; simp
    · rw [if_neg (fun h => hx ((mem_idxs hs).1 h)), if_neg hx]; simp
  · rw [List.getElem?_eq_none (by rw [hitsP_len]; exact h), List.getElem?_eq_none (by rw [hitsP_len]; exact h)]
theorem hitsP_down (S : List (List Int)) (now : List Int) (x : Int) : hitsP S (now ++ [x]) (-1) (idxs S x) = hitsL S now := by
  rw [← hitsP_nil S now 0]
  apply List.ext_getElem?
  intro i
  rcases Nat.lt_or_ge i S.length with h | h
  · obtain ⟨s, hs⟩ := get_some h
    rw [hitsP_get hs, hitsP_get hs, cnt_snoc]
    by_cases hx : x ∈ s
    · rw [if_pos ((mem_idxs hs).2 hx), if_pos hx]; simp; omega
    · rw [if_neg (fun h => hx ((mem_idxs hs).1 h)), if_neg hx]; simp
  · rw [List.getElem?_eq_none (by rw [hitsP_len]; exact h), List.getElem?_eq_none (by rw [hitsP_len]; exact h)]

/-! ### Steps on the memory -/
section
variable {K : FK} {w w' : World}
theorem heap_set_ne (w : World) (p : Addr) (u : Value) {k : Nat} (h : k ≠ p.block) : (w.setCell p u).heap[k]? = w.heap[k]? := Below.heap_setCell w p u k h
theorem size_set (w : World) (p : Addr) (u : Value) : (w.setCell p u).heap.size = w.heap.size := by simp [World.setCell]
theorem FamC.setHb (h : FamC K w) (i : Nat) (u : Value) : FamC K (w.setCell ⟨K.hb, i, none⟩ u) :=
  h.keep (by rw [size_set]; exact Nat.le_refl _) fun k _ _ _ h4 _ => heap_set_ne w _ u h4
theorem FamC.setA (h : FamC K w) (i : Nat) (u : Value) : FamC K (w.setCell ⟨K.a, i, none⟩ u) :=
  h.keep (by rw [size_set]; exact Nat.le_refl _) fun k _ _ h3 _ _ => heap_set_ne w _ u h3
theorem FIt.setHb (h : FamC K w) (i : Nat) (u : Value) : FIt K w (w.setCell ⟨K.hb, i, none⟩ u) := by
  refine ⟨rfl, rfl, rfl, by rw [size_set]; exact Nat.le_refl _, fun k _ hr _ => heap_set_ne w _ u (fun e => ?_), .inl ?_⟩
  · have h1 := h.rh.1; have h2 := h.rh.2; have e' : k = K.hb := e; omega
  · unfold nowB; rw [World.cell?_of_block (w := w) (a := ⟨K.a, 4, none⟩) (heap_set_ne w _ u h.ne.1)]
theorem SI.setHb {u : Value} {l : List Int} (h : SI w u l) (ha : Apart u (some K.hb)) (i : Nat) (x : Value) : SI (w.setCell ⟨K.hb, i, none⟩ x) u l :=
  h.block (by rw [size_set]; exact Nat.le_refl _) fun a n c e hn => heap_set_ne w _ x (fun e' => ha a n c e hn (by rw [e']))
theorem own_shrink {B : Nat} {e : TypeId} {g m cap : Nat} {xs : List Value} {u : Value} (h : w.ownsRow B e 1 (.slice (some ⟨g, 0, none⟩) (m + 1) cap) (m + 1) (xs ++ [u])) : w.ownsRow B e 1 (.slice (some ⟨g, 0, none⟩) m cap) m xs := by
  have hl := h.1
  simp at hl
  rcases h.2 with ⟨h0, _⟩ | ⟨g', cap', cur, hv, hb, hg, hn, hm, hs, ht⟩
  · cases h0
  · obtain ⟨rfl⟩ : g = g' := by injection hv with h; injection h with h; injection h
    obtain ⟨rfl⟩ : cap = cap' := by injection hv
    refine ⟨by simpa using hl, .inr ⟨g, cap, cur, rfl, hb, hg, by omega, hm, hs, ?_⟩⟩
    have := congrArg (List.take m) ht
    rw [List.take_take, List.take_left' (by omega)] at this
    rw [← this]
    congr 1
    omega
end

/-- While add goes over the indices. -/
def AddI (K : FK) (w : World) (fr : Int → Bool) (n : Int) (nv u : Value) (x : Int) (t now0 now : List Int) (wr : World) : Prop :=
  FamC K wr ∧ Blk wr K.a 71 #[K.vs, .map (some K.mw), K.hv, .map (some K.mf), nv] ∧ wr.ownsRow K.base 3 1 nv now.length (now.map iV) ∧
    wr.ownsRow K.base0 3 1 K.hv K.S.length ((hitsP K.S now0 n t).map iV) ∧ MapF wr K3 K.mf K.S.flatten.length (freeF K.S fr) ∧ (SI wr u (idxs K.S x) ∧ K.holds u) ∧ FIt K w wr

theorem AddI.step {K : FK} {w : World} {fr : Int → Bool} {n : Int} {nv u : Value} {x : Int} {t now0 now : List Int} {wr : World} (h : AddI K w fr n nv u x t now0 now wr) {i : Nat} {s : List Int} (hs : K.S[i]? = some s) (hi : (i : Int) ∉ t) :
    AddI K w fr n nv u x (t ++ [(i : Int)]) now0 now (wr.setCell ⟨K.hb, i, none⟩ (.int .i64 ((cnt now0 s : Int) + n))) := by
  obtain ⟨h1, h2, h3, h4, h5, h6, h7⟩ := h
  have hne : ∀ g, nv.ownBlock = some g → g ≠ K.hb := fun g hg => by have := (h3.lt g hg).1; have := h1.rh.2; omega
  refine ⟨h1.setHb i _, h2.far h1.ne.1 _, own_block h3 fun g hg => heap_set_ne wr _ _ (hne g hg), ?_, h5.setCell (Ne.symm h1.ne.2.2) _, ⟨h6.1.setHb h6.2.2.2.2.1 i _, h6.2⟩, h7.trans (FIt.setHb h1 i _)⟩
  have := (h4.stored i (.int .i64 ((cnt now0 s : Int) + n))).1
  rw [← hitsP_set hs hi, List.map_set]
  exact this

section
variable {K : FK} {w wr : World} {fr : Int → Bool} {n : Int} {nv u : Value} {x : Int} {t now0 now : List Int}
theorem AddI.cells (h : AddI K w fr n nv u x t now0 now wr) : wr.cell? ⟨K.a, 0, none⟩ = some K.vs ∧ wr.cell? ⟨K.a, 1, none⟩ = some (.map (some K.mw)) ∧ wr.cell? ⟨K.a, 2, none⟩ = some K.hv ∧ wr.cell? ⟨K.a, 3, none⟩ = some (.map (some K.mf)) :=
  ⟨h.2.1.cell 0, h.2.1.cell 1, h.2.1.cell 2, h.2.1.cell 3⟩
theorem AddI.hit (h : AddI K w fr n nv u x t now0 now wr) {i : Nat} {s : List Int} (hs : K.S[i]? = some s) (hi : (i : Int) ∉ t) : wr.cell? ⟨K.hb, i, none⟩ = some (.int .i64 (cnt now0 s : Int)) ∧ wr.frozen? ⟨K.hb, i, none⟩ = false := by
  obtain ⟨_, _, _, h4, _⟩ := h
  have := h4.cells (g := K.hb) rfl i (.int .i64 (cnt now0 s : Int)) (by rw [List.getElem?_map, hitsP_get hs, if_neg hi]; simp)
  rw [add_lit, Nat.zero_add] at this
  exact ⟨this, h4.frozenAt i⟩
theorem FIt.drew' {W : World} (h : FIt K w W) : FIt K w W.drew := ⟨h.os, h.tape, h.output, h.size, h.same, h.now⟩
theorem AddI.drew (h : AddI K w fr n nv u x t now0 now wr) : AddI K w fr n nv u x t now0 now wr.drew :=
  ⟨h.1.keep (Nat.le_refl _) fun _ _ _ _ _ _ => rfl, h.2.1, h.2.2.1, h.2.2.2.1, h.2.2.2.2.1, h.2.2.2.2.2.1, h.2.2.2.2.2.2.drew'⟩
theorem FamC.with_look (h : FamC K w) {x : Int} (hx : x ∈ K.S.flatten) : ∃ u, (∀ W : World, W.heap[K.mw]? = w.heap[K.mw]? → (Instr.lookup 69 (.map (some K.mw)) (.int .i64 x) false).run Tryz.prog W = .ok u W) ∧ SI w u (idxs K.S x) ∧ K.holds u := by
  obtain ⟨wv, n, hm, hx'⟩ := h.wth
  refine ⟨wv x, fun W hW => ?_, (hx' x hx).1, (hx' x hx).2⟩
  have := (hm.block hW).look Tryz.underlying69 (Tryz.zeroValue23 W) (h.elem_wf hx).1
  unfold withF at this
  rw [if_pos hx] at this
  exact this
theorem AddI.start (hC : FamC K wr) (hb : Blk wr K.a 71 #[K.vs, .map (some K.mw), K.hv, .map (some K.mf), nv]) (ho : wr.ownsRow K.base 3 1 nv now.length (now.map iV)) (hh : wr.ownsRow K.base0 3 1 K.hv K.S.length ((hitsL K.S now0).map iV))
    (hf : MapF wr K3 K.mf K.S.flatten.length (freeF K.S fr)) (hu : SI wr u (idxs K.S x) ∧ K.holds u) (hI : FIt K w wr) : AddI K w fr n nv u x [] now0 now wr :=
  ⟨hC, hb, ho, by rw [hitsP_nil]; exact hh, hf, hu, hI⟩
end
end Go.Proofs.YtbmdfnifbimfmaaGreatDoor
