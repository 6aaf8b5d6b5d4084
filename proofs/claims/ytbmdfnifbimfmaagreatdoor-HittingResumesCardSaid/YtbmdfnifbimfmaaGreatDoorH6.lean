/- A row of lists that a call owns; how it grows, and slices.SortFunc over it. -/
import Derived.Test.YtbmdfnifbimfmaaGreatDoorH5
namespace Go.Proofs.YtbmdfnifbimfmaaGreatDoor
open Go.RowKit Go.Sort Go.Shelf

/-- The slice u does not lie in block o. -/
def Apart (u : Value) (o : Option Nat) : Prop := ∀ a n c, u = .slice (some a) n c → 0 < n → some a.block ≠ o
theorem Apart.none (u : Value) : Apart u none := fun _ _ _ _ _ h => by cases h

theorem SI.block_lt {w : World} {u : Value} {l : List Int} (h : SI w u l) {a : Addr} {n c : Nat} (e : u = .slice (some a) n c) (hn : 0 < n) : a.block < w.heap.size := by
  obtain ⟨A, c', hv, _, _, hA⟩ := h
  rw [e] at hv
  injection hv with h1 h2 h3
  subst h1 h2
  obtain ⟨b, off, hb, hlt, _⟩ := hA hn
  injection hb with hb
  rw [hb]; exact hlt
/-- A list that does not lie in the row that turns is as it was. -/
theorem SI.kept {w w' : World} {u : Value} {l : List Int} {row : Option Nat} (h : SI w u l) (hg : w.grownBy w' row) (ha : Apart u row) : SI w' u l := by
  obtain ⟨A, c, rfl, hc, hm, hA⟩ := h.form
  refine S1.mk hc hm fun h0 => ?_
  obtain ⟨b, off, rfl, hb, hcell⟩ := hA h0
  refine ⟨b, off, rfl, Nat.lt_of_lt_of_le hb hg.size, fun i x hi => ?_⟩
  have hne : some b ≠ row := ha _ _ _ rfl h0
  exact (World.cell?_of_block (w := w) (a := ⟨b, off + i, Option.none⟩) (hg.block b hb hne)).trans (hcell i x hi)

/-- The call owns the row v of the lists ps; none of them lies in it. -/
def OwnP (w : World) (base : Nat) (v : Value) (ps : List (Value × List Int)) : Prop :=
  w.ownsRow base 23 1 v ps.length (ps.map (·.1)) ∧ ∀ p ∈ ps, SI w p.1 p.2 ∧ Apart p.1 v.ownBlock
section
variable {w w' : World} {base : Nat} {v : Value} {ps : List (Value × List Int)}
theorem OwnP.nil (w : World) (base : Nat) : OwnP w base (.slice none 0 0) [] := ⟨World.ownsRow_nil _ _ _ _, fun _ h => by cases h⟩
theorem OwnP.sp (h : OwnP w base v ps) : SP w v ps := ⟨own_S1 h.1, fun p hp => (h.2 p hp).1⟩
theorem OwnP.ss (h : OwnP w base v ps) : SS w v (ps.map (·.2)) := ⟨ps, rfl, h.sp⟩
theorem OwnP.up (h : OwnP w base v ps) (hb : Below w.heap.size w w') : OwnP w' base v ps := ⟨own_up h.1 hb, fun p hp => ⟨(h.2 p hp).1.up hb, (h.2 p hp).2⟩⟩
theorem OwnP.alloc (h : OwnP w base v ps) (o : Obj) : OwnP (w.alloc o) base v ps := h.up ((Below.refl _ _).alloc (Nat.le_refl _) _)
theorem OwnP.kept {row : Option Nat} (h : OwnP w base v ps) (hg : w.grownBy w' row) (h1 : v.ownBlock = none ∨ v.ownBlock ≠ row) (h2 : ∀ p ∈ ps, Apart p.1 row) : OwnP w' base v ps :=
  ⟨h.1.kept hg h1, fun p hp => ⟨(h.2 p hp).1.kept hg (h2 p hp), (h.2 p hp).2⟩⟩
/-- One more list. -/
theorem OwnP.snoc {v' : Value} {u : Value} {l : List Int} {n : Nat} {xs : List Value} (h : OwnP w base v ps) (hn : n = ps.length + 1) (hxs : xs = ps.map (·.1) ++ [u]) (hown : w'.ownsRow base 23 1 v' n xs) (hg : w.grownBy w' v.ownBlock)
    (hb : v'.ownBlock = v.ownBlock ∨ v'.ownBlock = some w.heap.size) (hu : SI w u l) (ha : Apart u v.ownBlock) : OwnP w' base v' (ps ++ [(u, l)]) := by
  have key : ∀ (u : Value) (l : List Int), SI w u l → Apart u v.ownBlock → SI w' u l ∧ Apart u v'.ownBlock := fun u l hu ha => by
    refine ⟨hu.kept hg ha, fun a n c e hn => ?_⟩
    rcases hb with hb | hb
    · rw [hb]; exact ha a n c e hn
    · rw [hb]; intro e2; injection e2 with e2; have := hu.block_lt e hn; omega
  refine ⟨?_, fun p hp => ?_⟩
  · subst hn hxs
    simpa using hown
  · rcases List.mem_append.1 hp with hp | hp
    · exact key _ _ (h.2 p hp).1 (h.2 p hp).2
    · rw [List.mem_singleton.1 hp]; exact key _ _ hu ha
theorem OwnP.lower (h : OwnP w base v ps) {base' : Nat} (hb : base' ≤ base) : OwnP w base' v ps := ⟨ownsRow_base' h.1 hb, h.2⟩
end

/-! ### The sort -/
theorem ownsRow_holds {α : Type} [Inhabited α] {w : World} {base : Nat} {e : TypeId} {g n cap : Nat} {enc : α → Value} {l : List α} (h : w.ownsRow base e 1 (.slice (some ⟨g, 0, none⟩) n cap) l.length (l.map enc)) : Holds enc w g 0 l.toArray := by
  intro j hj
  have hj' : j < l.length := by simpa using hj
  obtain ⟨_, h2⟩ := h
  rcases h2 with ⟨h2, _⟩ | ⟨g', cap', cur, hv, hb, hg, hn, hm, hs, ht⟩
  · cases h2
  · obtain ⟨rfl⟩ : g = g' := by injection hv with h; injection h with h; injection h
    constructor
    · rw [Nat.zero_add, cell_of_row w g j cur e (0, 0) hg]
      have := congrArg (fun L : List Value => L[j]?) ht
      simp only [List.getElem?_take, Nat.mul_one, if_pos hj', Array.getElem?_toList, List.getElem?_map] at this
      rw [this, List.getElem?_eq_getElem hj']
      simp [hj']
    · simp [World.frozen?, hg]

theorem ownsRow_sort {α : Type} [Inhabited α] {w : World} {base : Nat} {e : TypeId} {g n cap : Nat} {enc : α → Value} {l : List α} {d' : Array α} (hd : d'.size = l.length)
    (h : w.ownsRow base e 1 (.slice (some ⟨g, 0, none⟩) n cap) l.length (l.map enc)) (m : Nat) (os : Array Obj) :
    (sortWorld enc w g 0 m d' os).ownsRow base e 1 (.slice (some ⟨g, 0, none⟩) n cap) d'.toList.length (d'.toList.map enc) ∧ w.grownBy (sortWorld enc w g 0 m d' os) (some g) := by
  obtain ⟨h1, h2⟩ := h
  rcases h2 with ⟨h2, _⟩ | ⟨g', cap', cur, hv, hb, hg, hn, hm, hs, ht⟩
  · cases h2
  · obtain ⟨rfl⟩ : g = g' := by injection hv with h; injection h with h; injection h
    obtain ⟨rfl⟩ : cap = cap' := by injection hv
    obtain ⟨rfl⟩ : n = l.length := by injection hv
    have hlt : g < w.heap.size := (Array.getElem?_eq_some_iff.1 hg).1
    have hblk : (sortWorld enc w g 0 m d' os).heap[g]? = some (.cells (putCells enc 0 d' cur) e (0, 0)) := by
      unfold sortWorld
      rw [heap_grow_old _ _ (by simp [putRow, mapBlock]; exact hlt)]
      show ((w.heap.modify g (onCells (putCells enc 0 d')))[g]?) = _
      simp [Array.getElem?_modify, hg, onCells]
    refine ⟨⟨by simp, .inr ⟨g, cap, _, by simp [hd], hb, hblk, by simp [hd]; exact hn, hm, by simp [putCells, hs], ?_⟩⟩, rfl, rfl, rfl, ?_, ?_⟩
    · apply List.ext_getElem?
      intro t
      rw [List.getElem?_take]
      have hle : d'.size ≤ cap := by omega
      split
      · rename_i ht'
        simp only [Array.length_toList, Nat.mul_one] at ht'
        have h3 : t < cur.size := by omega
        simp [putCells, h3, ht', getElem!_pos]
      · rename_i ht'
        simp only [Array.length_toList, Nat.mul_one] at ht'
        rw [List.getElem?_eq_none (by simp; omega)]
    · simp [sortWorld, putRow, mapBlock, grow]
    · intro i hi hne
      unfold sortWorld
      rw [heap_grow_old _ _ (by simp [putRow, mapBlock]; exact hi)]
      show ((w.heap.modify g (onCells (putCells enc 0 d')))[i]?) = _
      rw [Array.getElem?_modify, if_neg (fun e => hne (by rw [e]))]

/-- The lists that a sort of the row g in w may meet. -/
abbrev El (w : World) (g : Nat) : Type := { p : Value × List Int // SI w p.1 p.2 ∧ Apart p.1 (some g) }
instance El.inh (w : World) (g : Nat) : Inhabited (El w g) := ⟨⟨(.slice none 0 0, []), S1.nil _ _, fun _ _ _ h => by injection h with h; cases h⟩⟩
def El.v {w : World} {g : Nat} (p : El w g) : Value := p.1.1
def El.l {w : World} {g : Nat} (p : El w g) : List Int := p.1.2
theorem El.one (w : World) (g : Nat) : OneCell (El.v (w := w) (g := g)) := fun p => by
  obtain ⟨A, c, h⟩ := SI.slice_form p.2.1
  show (p.1.1).oneCell' = true
  rw [h]; rfl

theorem ltEl {w : World} {g : Nat} (x y : El w g) : (ltOf (fun p q : El w g => cmpS p.l q.l) x y = true ↔ ltS x.l y.l) ∧ (ltOf (fun p q : El w g => cmpS p.l q.l) x y = false ↔ ¬ ltS x.l y.l) := by
  unfold ltOf ltS
  exact ⟨decide_eq_true_iff, decide_eq_false_iff_not⟩
theorem El.swo (w : World) (g : Nat) : SWO (ltOf fun p q : El w g => cmpS p.l q.l) := by
  refine ⟨fun x => (ltEl x x).2.2 (ltS_irrefl _), fun x y z h1 h2 => (ltEl x z).1.2 (ltS_trans ((ltEl x y).1.1 h1) ((ltEl y z).1.1 h2)), fun x y z h1 h2 => ?_⟩
  have h1' := (ltEl x y).2.1 h1
  have h2' := (ltEl y z).2.1 h2
  refine (ltEl x z).2.2 fun h3' => ?_
  rcases ltS_total x.l y.l with a | a | a
  · exact h1' a
  · rw [a] at h3'; exact h2' h3'
  · exact h2' (ltS_trans a h3')

theorem eg_compare : ∀ args w, (callFunc 36 args).run Tryz.prog w = .ok (.enter 36 args) w := enters_of Tryz.func36 (by kernel_rfl) rfl

theorem SI.inSort {α : Type} [Inhabited α] {enc : α → Value} {w : World} {g : Nat} {u : Value} {l : List Int} (h : SI w u l) (ha : Apart u (some g)) (m : Nat) (dk : Array α) (os : Array Obj) : SI (sortWorld enc w g 0 m dk os) u l := by
  refine h.kept (row := some g) ⟨rfl, rfl, rfl, by simp [sortWorld, putRow, mapBlock, grow], fun i hi hne => ?_⟩ ha
  unfold sortWorld
  rw [heap_grow_old _ _ (by simp [putRow, mapBlock]; exact hi)]
  show ((w.heap.modify g (onCells (putCells enc 0 dk)))[i]?) = _
  rw [Array.getElem?_modify, if_neg (fun e => hne (by rw [e]))]

theorem cmpLaysEl (w : World) (g size : Nat) : CmpLays1 Tryz.prog 36 #[] (El.v (w := w) (g := g)) (fun p q => cmpS p.l q.l) g 0 size w := by
  intro m os dk _ x y
  refine (compare_any x.v y.v x.l y.l _ (x.2.1.inSort x.2.2 m dk os) (y.2.1.inSort y.2.2 m dk os)).mono ?_
  rintro e w' ⟨rfl, rfl⟩
  exact ⟨rfl, 0, #[], by simp [grow]; rfl⟩

def SortPost (w : World) (base : Nat) (v : Value) (ps : List (Value × List Int)) (e : Ending) (w' : World) : Prop :=
  e = .returned (.tuple #[]) ∧ ∃ ps', ps'.Perm ps ∧ (ps'.map (·.2)).Pairwise (fun a b => ¬ ltS b a) ∧ OwnP w' base v ps' ∧ w.grownBy w' v.ownBlock

theorem sortSS_any (base : Nat) (v : Value) (ps : List (Value × List Int)) (w : World) (h : OwnP w base v ps) (hlen : ps.length ≤ 1000000) :
    Calls Tryz.prog 35 #[v, .func (.func 36) #[] #[]] w (SortPost w base v ps) := by
  rcases h.1.2 with ⟨rfl, h0⟩ | ⟨g, cap, cur, rfl, hb, hg, hn, hm, hs, ht⟩
  · have : ps = [] := List.eq_nil_of_length_eq_zero h0
    subst this
    refine (Tryz.slices_SortFunc_noneSS (α := Nat) none 0 (.func (.func 36) #[] #[]) w).mono ?_
    rintro e w' ⟨rfl, rfl⟩
    exact ⟨rfl, [], List.Perm.refl _, List.Pairwise.nil, OwnP.nil _ _, World.grownBy.refl _ _⟩
  · have hlt : g < w.heap.size := (Array.getElem?_eq_some_iff.1 hg).1
    obtain ⟨d, hd⟩ : ∃ d : List (El w g), d.map (·.1) = ps := by
      refine ⟨ps.attach.map fun p => ⟨p.1, (h.2 p.1 p.2).1, (h.2 p.1 p.2).2⟩, ?_⟩
      rw [List.map_map]
      exact List.attach_map_subtype_val ps
    have hdl : d.length = ps.length := by rw [← hd, List.length_map]
    have hdv : d.map El.v = ps.map (·.1) := by rw [← hd, List.map_map]; rfl
    have hrow : w.ownsRow base 23 1 (.slice (some ⟨g, 0, none⟩) ps.length cap) d.length (d.map El.v) := by rw [hdl, hdv]; exact h.1
    have hcon := Tryz.slices_SortFuncSS (El.v (w := w) (g := g)) (El.one w g) (fun p q => cmpS p.l q.l) (El.swo w g) 36 #[] g 0 cap d.toArray w eg_compare (cmpLaysEl w g _) (ownsRow_holds hrow) hlt (by simp; omega)
    rw [show d.toArray.size = ps.length by simp [hdl]] at hcon
    refine hcon.mono ?_
    rintro e w' ⟨rfl, d', n, os, hp, hs', rfl⟩
    have hsz : d'.size = d.length := by simpa using hp.1
    obtain ⟨ho, hgr⟩ := ownsRow_sort (d' := d') hsz hrow n os
    have hperm : d'.toList.Perm d := by
      have := hp.2.2
      have e1 : List.take ps.length d'.toList = d'.toList := List.take_of_length_le (by simp [hsz, hdl])
      have e2 : List.take ps.length d = d := List.take_of_length_le (by omega)
      simpa [e1, e2] using this
    refine ⟨rfl, d'.toList.map (·.1), ?_, ?_, ⟨?_, ?_⟩, hgr⟩
    · have := hperm.map (fun p : El w g => p.1); rwa [hd] at this
    · rw [List.map_map, List.pairwise_map, List.pairwise_iff_getElem]
      intro i j hi hj hij
      have hi' : i < d'.size := by simpa using hi
      have hj' : j < d'.size := by simpa using hj
      have := hs' i j (Nat.zero_le _) hij (by omega)
      rw [getElem!_pos d' i hi', getElem!_pos d' j hj'] at this
      have h4 := (ltEl _ _).2.1 this
      rw [Array.getElem_toList, Array.getElem_toList]
      exact h4
    · rw [List.length_map, List.map_map]; exact ho
    · intro p hp'
      obtain ⟨q, _, rfl⟩ := List.mem_map.1 hp'
      exact ⟨q.2.1.inSort q.2.2 n d' os, q.2.2⟩
end Go.Proofs.YtbmdfnifbimfmaaGreatDoor
