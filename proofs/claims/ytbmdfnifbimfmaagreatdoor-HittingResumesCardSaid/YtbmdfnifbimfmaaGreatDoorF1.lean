/- The family of sets whose hitting sets are searched for: its memory. -/
import Derived.Test.YtbmdfnifbimfmaaGreatDoorH8
namespace Go.Proofs.YtbmdfnifbimfmaaGreatDoor
open Go.RowKit

section
variable {w w' : World}
theorem own_block {B : Nat} {e : TypeId} {size n : Nat} {v : Value} {xs : List Value} (h : w.ownsRow B e size v n xs) (hk : ∀ g, v.ownBlock = some g → w'.heap[g]? = w.heap[g]?) : w'.ownsRow B e size v n xs := by
  refine ⟨h.1, ?_⟩
  rcases h.2 with h2 | ⟨g, cap, cur, rfl, hb, hg, r⟩
  · exact .inl h2
  · exact .inr ⟨g, cap, cur, rfl, hb, (hk g rfl).trans hg, r⟩
theorem SI.block {u : Value} {l : List Int} (h : SI w u l) (hs : w.heap.size ≤ w'.heap.size) (hk : ∀ a n c, u = .slice (some a) n c → 0 < n → w'.heap[a.block]? = w.heap[a.block]?) : SI w' u l := by
  obtain ⟨A, c, rfl, hc, hm, hA⟩ := h.form
  refine S1.mk hc hm fun h0 => ?_
  obtain ⟨b, off, rfl, hb, hcell⟩ := hA h0
  exact ⟨b, off, rfl, Nat.lt_of_lt_of_le hb hs, fun i x hi => (World.cell?_of_block (w := w) (a := ⟨b, off + i, none⟩) (hk ⟨b, off, none⟩ _ _ rfl h0)).trans (hcell i x hi)⟩
theorem MapF.block {P : Program} {k : TypeId} {κ : Type} {K : KK P k κ} {b n : Nat} {f : κ → Option Value} (h : MapF w K b n f) (hk : w'.heap[b]? = w.heap[b]?) : MapF w' K b n f := by
  obtain ⟨D, ⟨es, clock, hb, r⟩, h2⟩ := h
  exact ⟨D, ⟨es, clock, hk.trans hb, r⟩, h2⟩
theorem Blk.block {g : Nat} {t : TypeId} {cs : Array Value} (h : Blk w g t cs) (hk : w'.heap[g]? = w.heap[g]?) : Blk w' g t cs := hk.trans h
end

/-- A map whose keys lie in E has no more entries than E. -/
theorem MapF.few {P : Program} {k : TypeId} {κ : Type} [DecidableEq κ] {K : KK P k κ} {w : World} {b n : Nat} {f : κ → Option Value} (h : MapF w K b n f) (E : List κ) (hE : ∀ x, K.ok x → f x ≠ none → x ∈ E) : MapF w K b E.length f := by
  obtain ⟨D, h1, h2, es, rfl, h3⟩ := h
  obtain ⟨es', hes, hp⟩ := h1.tidy K.keyed
  injection hes with hes
  subst hes
  have hlen : es.length ≤ E.length := by
    classical
    have hch : ∀ p ∈ es, ∃ x ∈ E, K.kl x = p.1 := by
      intro p hp'
      obtain ⟨x, hx, e⟩ := h3 p hp'
      refine ⟨x, hE x hx fun hn => ?_, e.symm⟩
      have h4 := (h2 x hx).1
      rw [hn, Maps.has_eq] at h4
      have hs : p.1.sameKey (K.kl x) = true := by
        rw [e]
        have hk := K.keyed.key (K.key x hx)
        have := Maps.has_put_same (D := .map []) ⟨_, rfl⟩ hk (DataW.held (H := Value) (.bool true))
        simpa [Maps.has_eq, DataW.put, DataW.insert] using this
      have : es.any (fun p => p.1.sameKey (K.kl x)) = true := List.any_eq_true.2 ⟨p, hp', hs⟩
      rw [this] at h4; cases h4
    have hnd : (es.map (·.1)).Nodup := by
      unfold List.Nodup
      rw [List.pairwise_map]
      exact hp
    have := nodup_len (a := es.map (·.1)) (b := E.map K.kl) hnd (fun y hy => by
      obtain ⟨p, hp', rfl⟩ := List.mem_map.1 hy
      obtain ⟨x, hx, e⟩ := hch p hp'
      exact List.mem_map.2 ⟨x, hx, e⟩)
    simpa using this
  obtain ⟨es2, clock, hb, F, hs, hD⟩ := h1
  refine ⟨.map es, ⟨es2, clock, hb, F, ?_, hD⟩, h2, es, rfl, h3⟩
  injection hD with hD
  have : es.length = es2.size := by rw [hD]; simp [length_sorted]
  omega

/-- The family's constants. -/
structure FK where
  a : Nat
  vs : Value
  mw : Nat
  hb : Nat
  hc : Nat
  mf : Nat
  S : List (List Int)
  base0 : Nat
  base : Nat
abbrev FK.hv (K : FK) : Value := .slice (some ⟨K.hb, 0, none⟩) K.S.length K.hc
abbrev FK.p (K : FK) : Value := .pointer (some ⟨K.a, 0, none⟩)

def cnt (now s : List Int) : Nat := (now.filter (· ∈ s)).length
def idxs (S : List (List Int)) (x : Int) : List Int := ((List.range S.length).filter fun i => decide (x ∈ S.getD i [])).map fun i : Nat => (i : Int)
def hitsL (S : List (List Int)) (now : List Int) : List Int := S.map fun s => (cnt now s : Int)
def withF (S : List (List Int)) (wv : Int → Value) : Int → Option Value := fun x => if x ∈ S.flatten then some (wv x) else none
def freeF (S : List (List Int)) (fr : Int → Bool) : Int → Option Value := fun x => if x ∈ S.flatten then some (.bool (fr x)) else none

/-- The slice lies below block B. -/
def OldB (B : Nat) (u : Value) : Prop := ∀ a n c, u = .slice (some a) n c → 0 < n → a.block < B
/-- The slice lies among the family's constants. -/
def FK.holds (K : FK) (u : Value) : Prop := NewB K.base0 u ∧ OldB K.base u ∧ Apart u (some K.a) ∧ Apart u (some K.hb) ∧ Apart u (some K.mf)

/-- What does not change. -/
structure FamC (K : FK) (w : World) : Prop where
  rng : K.base0 ≤ K.base ∧ K.base ≤ w.heap.size
  ra : K.base0 ≤ K.a ∧ K.a < K.base
  rw_ : (K.base0 ≤ K.mw ∧ K.mw < K.base) ∧ K.mw ≠ K.a ∧ K.mw ≠ K.hb ∧ K.mw ≠ K.mf
  rf : K.base0 ≤ K.mf ∧ K.mf < K.base
  rh : K.base0 ≤ K.hb ∧ K.hb < K.base
  ne : K.a ≠ K.hb ∧ K.a ≠ K.mf ∧ K.hb ≠ K.mf
  sets : ∃ ps : List (Value × List Int), ps.map (·.2) = K.S ∧ w.ownsRow K.base0 23 1 K.vs ps.length (ps.map (·.1)) ∧ (∀ g, K.vs.ownBlock = some g → g < K.base ∧ g ≠ K.a ∧ g ≠ K.hb ∧ g ≠ K.mf) ∧ ∀ p ∈ ps, SI w p.1 p.2 ∧ K.holds p.1
  wth : ∃ wv n, MapF w K3 K.mw n (withF K.S wv) ∧ ∀ x ∈ K.S.flatten, SI w (wv x) (idxs K.S x) ∧ K.holds (wv x)
  valid : ValidAll K.S
  few : K.S.length ≤ 100000 ∧ K.S.flatten.length ≤ 1000000
/-- What changes. -/
structure FamS (K : FK) (w : World) (now : List Int) (fr : Int → Bool) : Prop where
  blk : ∃ nv, Blk w K.a 71 #[K.vs, .map (some K.mw), K.hv, .map (some K.mf), nv] ∧ w.ownsRow K.base 3 1 nv now.length (now.map iV)
  hits : w.ownsRow K.base0 3 1 K.hv K.S.length ((hitsL K.S now).map iV)
  free : MapF w K3 K.mf K.S.flatten.length (freeF K.S fr)
def Fam (K : FK) (w : World) (now : List Int) (fr : Int → Bool) : Prop := FamC K w ∧ FamS K w now fr

/-- The block of the current set. -/
def nowB (K : FK) (w : World) : Option Nat := (w.cell? ⟨K.a, 4, none⟩).bind (·.ownBlock)
theorem FamS.nowB {K : FK} {w : World} {now : List Int} {fr : Int → Bool} (h : FamS K w now fr) : ∃ nv, nowB K w = nv.ownBlock ∧ Blk w K.a 71 #[K.vs, .map (some K.mw), K.hv, .map (some K.mf), nv] ∧ w.ownsRow K.base 3 1 nv now.length (now.map iV) := by
  obtain ⟨nv, h1, h2⟩ := h.blk
  exact ⟨nv, by unfold Go.Proofs.YtbmdfnifbimfmaaGreatDoor.nowB; rw [h1.cell 4]; rfl, h1, h2⟩

section
variable {K : FK} {w w' : World}
theorem FamC.keep (h : FamC K w) (hs : w.heap.size ≤ w'.heap.size) (hk : ∀ k, K.base0 ≤ k → k < K.base → k ≠ K.a → k ≠ K.hb → k ≠ K.mf → w'.heap[k]? = w.heap[k]?) : FamC K w' := by
  have key : ∀ (u : Value) (l : List Int), SI w u l → K.holds u → SI w' u l := fun u l hu ⟨h1, h2, h3, h4, h5⟩ =>
    hu.block hs fun a n c e hn => hk _ (h1 a n c e hn) (h2 a n c e hn) (fun e' => h3 a n c e hn (by rw [e'])) (fun e' => h4 a n c e hn (by rw [e'])) (fun e' => h5 a n c e hn (by rw [e']))
  obtain ⟨ps, e, ho, hb, hp⟩ := h.sets
  obtain ⟨wv, n, hm, hx⟩ := h.wth
  exact { h with
    rng := ⟨h.rng.1, Nat.le_trans h.rng.2 hs⟩
    sets := ⟨ps, e, own_block ho fun g hg => hk g (ho.lt g hg).1 (hb g hg).1 (hb g hg).2.1 (hb g hg).2.2.1 (hb g hg).2.2.2, hb, fun p hp' => ⟨key _ _ (hp p hp').1 (hp p hp').2, (hp p hp').2⟩⟩
    wth := ⟨wv, n, hm.block (hk _ h.rw_.1.1 h.rw_.1.2 h.rw_.2.1 h.rw_.2.2.1 h.rw_.2.2.2), fun x hx' => ⟨key _ _ (hx x hx').1 (hx x hx').2, (hx x hx').2⟩⟩ }
theorem Fam.keep {now : List Int} {fr : Int → Bool} (h : Fam K w now fr) (hs : w.heap.size ≤ w'.heap.size) (hk : ∀ k, K.base0 ≤ k → k < K.base → w'.heap[k]? = w.heap[k]?) (hn : ∀ g, nowB K w = some g → w'.heap[g]? = w.heap[g]?) : Fam K w' now fr ∧ nowB K w' = nowB K w := by
  obtain ⟨hc, hS⟩ := h
  obtain ⟨nv, hnv, hb, ho⟩ := hS.nowB
  have ha := hk K.a hc.ra.1 hc.ra.2
  refine ⟨⟨hc.keep hs fun k h1 h2 _ _ _ => hk k h1 h2, ⟨⟨nv, hb.block ha, own_block ho fun g hg => hn g (hnv.trans hg)⟩, own_block hS.hits fun g hg => ?_, hS.free.block (hk _ hc.rf.1 hc.rf.2)⟩⟩, ?_⟩
  · cases hg; exact hk _ hc.rh.1 hc.rh.2
  · unfold nowB; rw [World.cell?_of_block (w := w) (a := ⟨K.a, 4, none⟩) ha]
theorem Fam.up {now : List Int} {fr : Int → Bool} (h : Fam K w now fr) (hb : Below w.heap.size w w') : Fam K w' now fr ∧ nowB K w' = nowB K w := by
  refine h.keep hb.size (fun k _ h2 => hb.block k (Nat.lt_of_lt_of_le h2 h.1.rng.2)) fun g hg => ?_
  obtain ⟨nv, hnv, _, ho⟩ := h.2.nowB
  exact hb.block g (ho.lt g (hnv.symm.trans hg)).2

/-- What the family's own steps may do. -/
structure FIt (K : FK) (W W' : World) : Prop where
  os : W'.os = W.os
  tape : W'.tape = W.tape
  output : W'.output = W.output
  size : W.heap.size ≤ W'.heap.size
  same : ∀ k, k < W.heap.size → (k < K.base0 ∨ K.base ≤ k) → some k ≠ nowB K W → W'.heap[k]? = W.heap[k]?
  now : nowB K W' = nowB K W ∨ ∃ k, W.heap.size ≤ k ∧ nowB K W' = some k
theorem FIt.refl (K : FK) (W : World) : FIt K W W := ⟨rfl, rfl, rfl, Nat.le_refl _, fun _ _ _ _ => rfl, .inl rfl⟩
theorem FIt.trans {A B C : World} (h1 : FIt K A B) (h2 : FIt K B C) : FIt K A C := by
  refine ⟨h2.os.trans h1.os, h2.tape.trans h1.tape, h2.output.trans h1.output, Nat.le_trans h1.size h2.size, fun k hk hr hn => ?_, ?_⟩
  · refine (h2.same k (Nat.lt_of_lt_of_le hk h1.size) hr fun e => ?_).trans (h1.same k hk hr hn)
    rcases h1.now with h | ⟨j, hj, h⟩
    · exact hn (e.trans h)
    · rw [h] at e; injection e with e; omega
  · rcases h2.now with h | ⟨j, hj, h⟩
    · rcases h1.now with h' | ⟨j, hj, h'⟩
      · exact .inl (h.trans h')
      · exact .inr ⟨j, hj, h.trans h'⟩
    · exact .inr ⟨j, Nat.le_trans h1.size hj, h⟩
theorem FIt.up {now : List Int} {fr : Int → Bool} (hF : Fam K w now fr) (hb : Below w.heap.size w w') : FIt K w w' :=
  ⟨hb.os, hb.tape, hb.output, hb.size, fun k hk _ _ => hb.block k hk, .inl (hF.up hb).2⟩
end
end Go.Proofs.YtbmdfnifbimfmaaGreatDoor
