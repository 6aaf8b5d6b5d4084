/- Walks: newFamily. -/
import Derived.Test.YtbmdfnifbimfmaaGreatDoorF4
import Derived.Deep.RegionHeld3
namespace Go.Proofs.YtbmdfnifbimfmaaGreatDoor
open Go.RowKit

/-! ### The pairs that were seen -/
def pairs (S : List (List Int)) (k : Nat) : List (Nat × Int) := (List.range k).flatMap fun i => (S.getD i []).map fun x => (i, x)
def pairsTo (S : List (List Int)) (k j : Nat) : List (Nat × Int) := pairs S k ++ ((S.getD k []).take j).map fun x => (k, x)
def idxD (D : List (Nat × Int)) (x : Int) : List Int := (D.filter fun p => decide (p.2 = x)).map fun p => (p.1 : Int)
theorem pairs_succ (S : List (List Int)) (k : Nat) : pairs S (k + 1) = pairs S k ++ (S.getD k []).map fun x => (k, x) := by
  unfold pairs
  rw [List.range_succ, List.flatMap_append]
  simp
theorem pairsTo_zero (S : List (List Int)) (k : Nat) : pairsTo S k 0 = pairs S k := by simp [pairsTo]
theorem pairsTo_full {S : List (List Int)} {k : Nat} {s : List Int} (h : S[k]? = some s) : pairsTo S k s.length = pairs S (k + 1) := by
  unfold pairsTo
  rw [pairs_succ, getD_of h, List.take_length]
theorem pairsTo_succ {S : List (List Int)} {k j : Nat} {s : List Int} {x : Int} (h : S[k]? = some s) (hx : s[j]? = some x) : pairsTo S k (j + 1) = pairsTo S k j ++ [(k, x)] := by
  unfold pairsTo
  rw [getD_of h, take_snoc hx, List.map_append, List.append_assoc]
  rfl
theorem idxD_snoc (D : List (Nat × Int)) (i : Nat) (x y : Int) : idxD (D ++ [(i, x)]) y = if y = x then idxD D y ++ [(i : Int)] else idxD D y := by
  unfold idxD
  rw [List.filter_append, List.map_append]
  by_cases h : y = x
  · rw [if_pos h]; simp [h]
  · rw [if_neg h]
    have : ¬ x = y := fun e => h e.symm
    simp [this]
theorem filter_pairs (k : Nat) (x : Int) : ∀ (l : List Int), l.Nodup → (((l.map fun y => (k, y)).filter fun p => decide (p.2 = x)).map fun p => (p.1 : Int)) = if x ∈ l then [(k : Int)] else []
  | [], _ => rfl
  | y :: l, h => by
    have h' := List.nodup_cons.1 h
    rw [List.map_cons, List.filter_cons]
    by_cases hy : y = x
    · subst hy
      have := filter_pairs k y l h'.2
      rw [if_neg h'.1] at this
      simp only [decide_true, if_true, List.map_cons, this]
      simp
    · have := filter_pairs k x l h'.2
      have hxy : ¬ x = y := fun e => hy e.symm
      simp only [hy, decide_false, Bool.false_eq_true, if_false, this]
      simp [hxy]
theorem idxD_pairs {S : List (List Int)} (hv : ValidAll S) (x : Int) : ∀ k ≤ S.length, idxD (pairs S k) x = ((List.range k).filter fun i => decide (x ∈ S.getD i [])).map fun i : Nat => (i : Int)
  | 0, _ => rfl
  | k + 1, hk => by
    have ih := idxD_pairs hv x k (by omega)
    unfold idxD at ih ⊢
    obtain ⟨s, hs⟩ := get_some (l := S) (k := k) (by omega)
    have hnd : s.Nodup := (hv s (List.mem_of_getElem? hs)).2.imp (fun h => by omega)
    rw [pairs_succ, List.filter_append, List.map_append, ih, getD_of hs, filter_pairs k x s hnd, List.range_succ, List.filter_append, List.map_append]
    congr 1
    by_cases h : x ∈ s <;> simp [hs, h]
theorem idxD_all {S : List (List Int)} (hv : ValidAll S) (x : Int) : idxD (pairs S S.length) x = idxs S x := idxD_pairs hv x S.length (Nat.le_refl _)
theorem pairs_snd (S : List (List Int)) : ∀ k ≤ S.length, (pairs S k).map (·.2) = (S.take k).flatten
  | 0, _ => rfl
  | k + 1, hk => by
    obtain ⟨s, hs⟩ := get_some (l := S) (k := k) (by omega)
    rw [pairs_succ, List.map_append, pairs_snd S k (by omega), take_snoc hs, List.flatten_append, getD_of hs]
    simp [Function.comp_def]
theorem pairs_mem (S : List (List Int)) (x : Int) : x ∈ (pairs S S.length).map (·.2) ↔ x ∈ S.flatten := by rw [pairs_snd S _ (Nat.le_refl _), List.take_length]
theorem flatten_take_le (S : List (List Int)) (k : Nat) : (S.take k).flatten.length ≤ S.flatten.length := by
  have h : S.flatten = (S.take k).flatten ++ (S.drop k).flatten := by rw [← List.flatten_append, List.take_append_drop]
  rw [h, List.length_append]; omega
theorem pairs_len (S : List (List Int)) {k : Nat} (hk : k ≤ S.length) : (pairs S k).length ≤ S.flatten.length := by
  have := congrArg List.length (pairs_snd S k hk)
  rw [List.length_map] at this
  rw [this]; exact flatten_take_le S k
theorem pairsTo_len {S : List (List Int)} {k j : Nat} {s : List Int} (h : S[k]? = some s) : (pairsTo S k j).length ≤ S.flatten.length := by
  refine Nat.le_trans ?_ (pairs_len S (k := k + 1) (List.getElem?_eq_some_iff.1 h).1)
  rw [pairs_succ, getD_of h]
  unfold pairsTo
  rw [getD_of h, List.length_append, List.length_append, List.length_map, List.length_map, List.length_take]
  omega
theorem pairs_len_all (S : List (List Int)) : (pairs S S.length).length = S.flatten.length := by
  have := congrArg List.length (pairs_snd S _ (Nat.le_refl _))
  rw [List.length_map, List.take_length] at this
  exact this
theorem valid_len {l : List Int} (h : Valid l) : l.length ≤ 1024 := by
  have := nodup_len (a := l) (b := (List.range 1024).map fun i : Nat => (i : Int)) (h.2.imp (fun h => by omega)) (fun x hx => by
    have := h.1 x hx
    refine List.mem_map.2 ⟨x.toNat, List.mem_range.2 (by omega), by omega⟩)
  simpa using this
theorem flatten_len {m : Nat} : ∀ {L : List (List Int)}, (∀ l ∈ L, l.length ≤ m) → L.flatten.length ≤ L.length * m
  | [], _ => by simp
  | l :: L, h => by
    have h1 := h l (by simp)
    have h2 := flatten_len (L := L) fun l hl => h l (by simp [hl])
    rw [List.flatten_cons, List.length_append, List.length_cons, Nat.succ_mul]
    omega

/-! ### The memory while newFamily runs -/
def withD (D : List (Nat × Int)) (wv : Int → Value) : Int → Option Value := fun x => if x ∈ D.map (·.2) then some (wv x) else none
def freeD (D : List (Nat × Int)) : Int → Option Value := fun x => if x ∈ D.map (·.2) then some (.bool true) else none
def updV (wv : Int → Value) (x : Int) (v : Value) : Int → Value := fun y => if y = x then v else wv y
theorem snd_snoc {D : List (Nat × Int)} {i : Nat} {x y : Int} (h : ¬ y = x) : y ∈ (D ++ [(i, x)]).map (·.2) ↔ y ∈ D.map (·.2) := by
  rw [List.map_append, List.mem_append]
  exact ⟨fun h1 => h1.elim id fun h2 => absurd (List.mem_singleton.1 h2) h, .inl⟩
theorem withD_snoc (D : List (Nat × Int)) (wv : Int → Value) (i : Nat) (x : Int) (v : Value) : upd (withD D wv) x (some v) = withD (D ++ [(i, x)]) (updV wv x v) := by
  funext y
  unfold upd withD updV
  by_cases h : y = x
  · rw [if_pos h, if_pos (by simp [h]), if_pos h]
  · simp only [if_neg h, snd_snoc h]
theorem freeD_snoc (D : List (Nat × Int)) (i : Nat) (x : Int) : upd (freeD D) x (some (.bool true)) = freeD (D ++ [(i, x)]) := by
  funext y
  unfold upd freeD
  by_cases h : y = x
  · rw [if_pos h, if_pos (by simp [h])]
  · simp only [if_neg h, snd_snoc h]

/-- The rows of indices. -/
structure WRows (B : Nat) (wr : World) (D : List (Nat × Int)) (wv : Int → Value) : Prop where
  own : ∀ x, wr.ownsRow B 3 1 (wv x) (idxD D x).length ((idxD D x).map iV)
  out : ∀ x, x ∉ D.map (·.2) → wv x = .slice none 0 0
  ne : ∀ x y g, x ≠ y → (wv x).ownBlock = some g → (wv y).ownBlock ≠ some g
theorem WRows.kept {B : Nat} {w w' : World} {D : List (Nat × Int)} {wv : Int → Value} {row : Option Nat} (h : WRows B w D wv) (hg : w.grownBy w' row) (hr : ∀ k, row = some k → k < B) : WRows B w' D wv :=
  ⟨fun x => own_block (h.own x) fun g hgx => hg.block g ((h.own x).lt g hgx).2 fun e => by have := ((h.own x).lt g hgx).1; have := hr g e.symm; omega, h.out, h.ne⟩
theorem WRows.alloc {B : Nat} {w : World} {D : List (Nat × Int)} {wv : Int → Value} (h : WRows B w D wv) (o : Obj) : WRows B (w.alloc o) D wv := h.kept (World.grownBy_alloc w o none) (fun _ e => by cases e)
theorem WRows.step {B : Nat} {w w' : World} {D : List (Nat × Int)} {wv : Int → Value} (h : WRows B w D wv) {i : Nat} {x : Int} {v : Value} {n : Nat} {xs : List Value} (hn : n = (idxD D x).length + 1) (hxs : xs = (idxD D x).map iV ++ [iV i]) (ho : w'.ownsRow B 3 1 v n xs)
    (hg : w.grownBy w' (wv x).ownBlock) (hat : v.ownBlock = (wv x).ownBlock ∨ v.ownBlock = some w.heap.size) : WRows B w' (D ++ [(i, x)]) (updV wv x v) := by
  subst hn hxs
  refine ⟨fun y => ?_, fun y hy => ?_, fun y z g hyz => ?_⟩
  · rw [idxD_snoc]
    unfold updV
    by_cases hy : y = x
    · subst hy
      rw [if_pos rfl, if_pos rfl]
      simpa using ho
    · rw [if_neg hy, if_neg hy]
      exact own_block (h.own y) fun g hgy => hg.block g ((h.own y).lt g hgy).2 fun e => h.ne x y g (fun e' => hy e'.symm) e.symm hgy
  · unfold updV
    have : ¬ y = x := fun e => hy (by simp [e])
    rw [if_neg this]
    exact h.out y fun hy' => hy (by simp only [List.map_append, List.mem_append]; exact .inl hy')
  · unfold updV
    by_cases hy : y = x
    · subst hy
      rw [if_pos rfl, if_neg (fun e => hyz e.symm)]
      intro e e'
      rcases hat with hat | hat
      · exact h.ne y z g hyz (hat.symm.trans e) e'
      · rw [hat] at e; injection e with e
        have := ((h.own z).lt g e').2
        omega
    · rw [if_neg hy]
      by_cases hz : z = x
      · subst hz
        rw [if_pos rfl]
        intro e e'
        rcases hat with hat | hat
        · exact h.ne y z g hy e (hat.symm.trans e')
        · rw [hat] at e'; injection e' with e'
          have := ((h.own y).lt g e).2
          omega
      · rw [if_neg hz]; exact h.ne y z g hyz

/-- newFamily's memory: the pairs D were seen. -/
structure NF (w0 : World) (vs : Value) (S : List (List Int)) (D : List (Nat × Int)) (wr : World) : Prop where
  low : Below w0.heap.size w0 wr
  size : w0.heap.size + 4 ≤ wr.heap.size
  blk : Blk wr (w0.heap.size + 1 + 1) 71 #[vs, .map (some w0.heap.size), .slice (some ⟨w0.heap.size + 1 + 1 + 1, 0, none⟩) S.length S.length, .map (some (w0.heap.size + 1)), .slice none 0 0]
  hits : wr.ownsRow (w0.heap.size + 1 + 1 + 1) 3 1 (.slice (some ⟨w0.heap.size + 1 + 1 + 1, 0, none⟩) S.length S.length) S.length ((hitsL S []).map iV)
  free : MapF wr K3 (w0.heap.size + 1) D.length (freeD D)
  wth : ∃ wv, MapF wr K3 w0.heap.size D.length (withD D wv) ∧ WRows (w0.heap.size + 4) wr D wv
theorem NF.drew {w0 : World} {vs : Value} {S : List (List Int)} {D : List (Nat × Int)} {wr : World} (h : NF w0 vs S D wr) : NF w0 vs S D wr.drew := by
  obtain ⟨wv, h1, h2⟩ := h.wth
  exact ⟨h.low.drew, h.size, h.blk, h.hits, h.free, wv, h1, ⟨h2.own, h2.out, h2.ne⟩⟩
end Go.Proofs.YtbmdfnifbimfmaaGreatDoor
