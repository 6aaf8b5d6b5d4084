/- The walk of All. -/
import Derived.Test.YtbmdfnifbimfmaaGreatDoorG6
import Derived.Maps.OwnIn
namespace Go.Proofs.YtbmdfnifbimfmaaGreatDoor
open Go.RowKit Go.Shelf
attribute [local go_sem] Oper.semAt_some

theorem results_cells {P : Program} {fn : Func} {p q : Tmp} {ty tz : TypeId} (h : fn.results = #[.cell p ty, .cell q tz]) (tmps : Array Value) (w : World) {a b : Addr} {u v : Value} (hp : tmps.getD p undef = .pointer (some a)) (hq : tmps.getD q undef = .pointer (some b))
    (hl : (loadVar ty a).run P w = .ok u w) (hr : (loadVar tz b).run P w = .ok v w) : (results fn tmps).run P w = .ok (.tuple #[u, v]) w := by
  have hp' : tmps[p]?.getD undef = .pointer (some a) := by simpa using hp
  have hq' : tmps[q]?.getD undef = .pointer (some b) := by simpa using hq
  simp [results, h, hp', hq', asAddr, hl, hr]
theorem loadSS {w : World} {a : Addr} {v : Value} (h : w.cell? a = some v) : (loadVar 22 a).run Tryz.prog w = .ok v w := by
  simp [loadVar, h]
theorem loadErr {w : World} {a : Addr} {v : Value} (h : w.cell? a = some v) : (loadVar 26 a).run Tryz.prog w = .ok v w := by
  simp [loadVar, h]

/-- A round has met the limit. -/
structure AllX (w : World) (K : FK) (most : Int) (pre : List (Value × List Int)) (W : World) : Prop where
  low : Below w.heap.size w W
  b2 : Blk W (w.heap.size + 1) 22 #[.slice none 0 0]
  b3 : Blk W (w.heap.size + 1 + 1) 26 #[.int .i64 2]
  cnt : most < (pre.length : Int)
def AllIx (w : World) (K : FK) (most : Int) : Code → JT
  | .ret => AllX w K most
  | _ => fun _ _ => False
theorem AllX.move {w : World} {K : FK} {most : Int} {pre : List (Value × List Int)} {W W' : World} (h : AllX w K most pre W) (ho : W'.os = W.os) (ht : W'.tape = W.tape) (hu : W'.output = W.output) (hs : W.heap.size ≤ W'.heap.size) (hlow : ∀ k, k < w.heap.size + 3 → W'.heap[k]? = W.heap[k]?) : AllX w K most pre W' :=
  ⟨⟨ho.trans h.low.os, ht.trans h.low.tape, hu.trans h.low.output, Nat.le_trans h.low.size hs, fun k hk => (hlow k (by omega)).trans (h.low.block k hk)⟩, h.b2.block (hlow _ (by omega)), h.b3.block (hlow _ (by omega)), h.cnt⟩
theorem AllIx.own {w : World} {K : FK} {most : Int} {B : Nat} (hB : w.heap.size + 3 ≤ B) (c : Code) : OwnFrom B (AllIx w K most c) := by
  intro s W W' row h hg hr
  cases c with
  | ret =>
    have hX : AllX w K most s W := h
    have hl := hX.b3.lt
    exact hX.move hg.os hg.tape hg.output hg.size fun k hk => hg.block k (by omega) fun e => by have := (hr k e.symm).1; omega
  | _ => exact h.elim
theorem AllIx.it {w : World} {K : FK} {most : Int} (hb : w.heap.size + 3 ≤ K.base0) (c : Code) : JIt K (AllIx w K most c) := by
  intro s A B now fr h hF hI
  cases c with
  | ret =>
    have hX : AllX w K most s A := h
    refine hX.move hI.os hI.tape hI.output hI.size fun k hk => hI.same k ?_ (.inl (by omega)) fun e => ?_
    · have := hF.1.rng; omega
    · obtain ⟨nv, hnv, _, hr⟩ := hF.2.nowB
      have h1 := (hr.lt k (hnv.symm.trans e.symm)).1
      have := hF.1.rng; omega
  | _ => exact h.elim

theorem AllI.limit {w : World} {K : FK} {most : Int} {pre : List (Value × List Int)} {W : World} (h : AllI w K most pre W) (he : (pre.length : Int) = most) (hb : w.heap.size + 3 ≤ K.base0) (hb' : K.base0 ≤ K.base) (B : Nat) (x : Value × List Int) :
    KeepsFrom B W ((W.setCell ⟨w.heap.size + 1, 0, none⟩ (.slice none 0 0)).setCell ⟨w.heap.size + 1 + 1, 0, none⟩ (.int .i64 2)) ∧ KpB K W ((W.setCell ⟨w.heap.size + 1, 0, none⟩ (.slice none 0 0)).setCell ⟨w.heap.size + 1 + 1, 0, none⟩ (.int .i64 2)) ∧
      AllIx w K most .ret (pre ++ [x]) ((W.setCell ⟨w.heap.size + 1, 0, none⟩ (.slice none 0 0)).setCell ⟨w.heap.size + 1 + 1, 0, none⟩ (.int .i64 2)) := by
  have hk : ∀ k, k ≠ w.heap.size + 1 → k ≠ w.heap.size + 1 + 1 → ((W.setCell ⟨w.heap.size + 1, 0, none⟩ (.slice none 0 0)).setCell ⟨w.heap.size + 1 + 1, 0, none⟩ (.int .i64 2)).heap[k]? = W.heap[k]? := fun k h1 h2 => (heap_set_ne _ _ _ h2).trans (heap_set_ne _ _ _ h1)
  obtain ⟨vx, r1, _⟩ := h.row
  refine ⟨((KeepsOthers.setCell _ _ _).trans (KeepsOthers.setCell _ _ _)).from _, ⟨by simp, fun k h1 h2 => hk k (by omega) (by omega), fun k cs h1 h2 => (hk k (by omega) (by omega)).trans h2⟩, ⟨(h.low.setCell (by simp only; omega) _).setCell (by simp only; omega) _, ?_, ?_, by simp; omega⟩⟩
  · have := (r1.set_ 0 (.slice none 0 0)).far (p := ⟨w.heap.size + 1 + 1, 0, none⟩) (by simp only; omega) (.int .i64 2)
    simpa using this
  · have := (h.b3.far (p := ⟨w.heap.size + 1, 0, none⟩) (by simp only; omega) (.slice none 0 0)).set_ 0 (.int .i64 2)
    simpa using this

theorem AllI.snoc {w : World} {K : FK} {most : Int} {pre : List (Value × List Int)} {W W4 : World} (h : AllI w K most pre W) (he : (pre.length : Int) < most) (hb : w.heap.size + 3 ≤ K.base0) (hb' : K.base0 ≤ K.base) (ha : K.base0 ≤ K.a ∧ K.a < K.base) (B : Nat) {u : Value} {T : List Int} (hu : LRow K W u T) (hnl : ∀ g, nowB K W = some g → g < W.heap.size) {vx v' : Value} (hvx : W.cell? ⟨w.heap.size + 1, 0, none⟩ = some vx) {o : Obj} {n : Nat} {xs : List Value} (hn : n = pre.length + 1) (hxs : xs = pre.map (·.1) ++ [u])
    (ho : W4.ownsRow K.base 23 1 v' n xs) (hg : (W.alloc o).grownBy W4 vx.ownBlock) (hat : v'.ownBlock = vx.ownBlock ∨ v'.ownBlock = some (W.alloc o).heap.size) :
    (W4.cell? ⟨w.heap.size + 1, 0, none⟩ = some vx ∧ W4.frozen? ⟨w.heap.size + 1, 0, none⟩ = false) ∧ KeepsFrom B W (W4.setCell ⟨w.heap.size + 1, 0, none⟩ v') ∧ KpB K W (W4.setCell ⟨w.heap.size + 1, 0, none⟩ v') ∧ AllI w K most (pre ++ [(u, T)]) (W4.setCell ⟨w.heap.size + 1, 0, none⟩ v') := by
  obtain ⟨vx', r1, r2, r3, r4⟩ := h.row
  obtain rfl : vx' = vx := by have := (r1.cell 0).symm.trans hvx; simpa using this
  have hbig := h.big
  have hne : ∀ k, k < K.base → some k ≠ vx'.ownBlock := fun k hk e => by have := (r2.1.lt k e.symm).1; omega
  have hk4 : ∀ k, k < W.heap.size → some k ≠ vx'.ownBlock → W4.heap[k]? = W.heap[k]? := fun k hk hne => (hg.block k (by simp; omega) hne).trans (Below.heap_alloc W o k hk)
  have hk5 : ∀ k, k < W.heap.size → some k ≠ vx'.ownBlock → k ≠ w.heap.size + 1 → (W4.setCell ⟨w.heap.size + 1, 0, none⟩ v').heap[k]? = W.heap[k]? := fun k h1 h2 h3 => (heap_set_ne _ _ _ h3).trans (hk4 k h1 h2)
  have hsz : W.heap.size + 1 ≤ W4.heap.size := by have := hg.size; simpa using this
  have hb4 : Blk W4 (w.heap.size + 1) 22 #[vx'] := r1.block (hk4 _ r1.lt (hne _ (by omega)))
  have hrowtag : ∀ k cs t fz, W.heap[k]? = some (.cells cs t fz) → t ≠ 23 → some k ≠ vx'.ownBlock := fun k cs t fz hc ht e => by
    obtain ⟨cs', hcs⟩ := own_obj r2.1 e.symm
    rw [hc] at hcs; injection hcs with hcs; injection hcs with _ h2; exact ht h2
  have hua : Apart u vx'.ownBlock := fun a n c e hn e' => by
    obtain ⟨cs, hcs⟩ := own_obj r2.1 e'.symm
    rcases hu.1.2 with ⟨rfl, _⟩ | ⟨g, cap, cur, hv, _, hgg, _⟩
    · cases e
    · rw [hv] at e
      injection e with e1 e2 e3
      injection e1 with e1
      subst e1
      rw [hgg] at hcs; injection hcs with hcs; injection hcs with _ h2; exact absurd h2 (by decide)
  have hnow : nowB K (W4.setCell ⟨w.heap.size + 1, 0, none⟩ v') = nowB K W := nowB_eq (hk5 _ (by omega) (hne _ ha.2) (by omega))
  have hP4 : OwnP W4 K.base v' (pre ++ [(u, T)]) := (r2.alloc o).snoc hn hxs ho hg hat (hu.si.al o) hua
  refine ⟨⟨hb4.cell 0, hb4.frozen 0⟩, ⟨by rw [size_set]; omega, fun k o' hB hk hc => ?_⟩, ⟨by rw [size_set]; omega, fun k h1 h2 => hk5 k (by omega) (hne k h2) (by omega), fun k cs h1 h2 => (hk5 k (Array.getElem?_eq_some_iff.1 h2).1 (hrowtag k cs 3 (0, 0) h2 (by decide)) (by omega)).trans h2⟩, ⟨?_, ?_, ?_, by simp; omega, by rw [size_set]; omega, v', ?_, ⟨?_, fun p hp => ?_⟩, fun p hp => ?_, fun g hg' => ?_⟩⟩
  · have hkk : some k ≠ vx'.ownBlock := fun e => by
      obtain ⟨cs', hcs⟩ := own_obj r2.1 e.symm
      rw [hk] at hcs; injection hcs with hcs; subst hcs; cases hc
    have hk1 : k ≠ w.heap.size + 1 := fun e => by
      subst e
      rw [show W.heap[w.heap.size + 1]? = _ from r1] at hk; injection hk with hk; subst hk; cases hc
    exact (hk5 k (Array.getElem?_eq_some_iff.1 hk).1 hkk hk1).trans hk
  · exact ((bAl h.low o).grown hg (by have := h.low.size; simp; omega) (fun k e => by have := (r2.1.lt k e).1; omega)).setCell (by simp only; omega) _
  · exact h.b1.block (hk5 _ h.b1.lt (hne _ (by omega)) (by omega))
  · exact h.b3.block (hk5 _ h.b3.lt (hne _ (by omega)) (by omega))
  · have := hb4.set_ 0 v'
    simpa using this
  · exact own_block hP4.1 fun g hg' => heap_set_ne _ _ _ (fun e => by have := (hP4.1.lt g hg').1; simp only at e; omega)
  · have hnb : NewB K.base p.1 := by
      rcases List.mem_append.1 hp with hp | hp
      · exact (r3 p hp).1
      · rw [List.mem_singleton.1 hp]; exact newB_of_own hu.1 (Nat.le_refl _)
    exact ⟨(hP4.2 p hp).1.block (by rw [size_set]; exact Nat.le_refl _) fun a n c e hn => heap_set_ne _ _ _ (fun e' => by have := hnb a n c e hn; simp only at e'; omega), (hP4.2 p hp).2⟩
  · rw [hnow]
    rcases List.mem_append.1 hp with hp | hp
    · exact r3 p hp
    · rw [List.mem_singleton.1 hp]
      refine ⟨newB_of_own hu.1 (Nat.le_refl _), fun a n c e hn e' => ?_⟩
      rcases hu.1.2 with ⟨hu0, _⟩ | ⟨g, cap, cur, hv, _⟩
      · have e2 : u = .slice (some a) n c := e
        rw [hu0] at e2; cases e2
      · have e : u = .slice (some a) n c := e
        have hv' := hv
        rw [e] at hv
        injection hv with e1 e2 e3
        injection e1 with e1
        refine hu.2 g (by rw [hv']; rfl) ?_
        rw [← e', e1]
  · rw [hnow]
    rcases hat with hat | hat
    · exact r4 g (hat.symm.trans hg')
    · intro e
      rw [hat] at hg'; injection hg' with hg'
      have h1 := hnl g e
      simp at hg'
      omega
end Go.Proofs.YtbmdfnifbimfmaaGreatDoor
