/- Give: what holds between two rounds of the range over the branches; the way out behind it. -/
import Derived.Test.YtbmdfnifbimfmaaGreatDoorC9
import Derived.Deep.CutRange
namespace Go.Proofs.YtbmdfnifbimfmaaGreatDoor
open Go.RowKit Go.Shelf
attribute [local go_sem] Oper.semAt_some

theorem MapF.noCells {P : Program} {k : TypeId} {κ : Type} {K : KK P k κ} {w : World} {b n : Nat} {f : κ → Option Value} (h : MapF w K b n f) {o : Obj} (ho : w.heap[b]? = some o) : o.isCells = false := by
  obtain ⟨D, ⟨es, clock, hh, _⟩, _⟩ := h
  rw [hh] at ho; injection ho with ho; subst ho; rfl
/-- The branch is not among the open ones. -/
noncomputable def freshB (dO : List (Value × List Int)) (p : Value × List Int) : Bool := !(bOf (p.2 ∈ dO.map (·.2)))
structure RI (w : World) (old : Array Value) (spv : Int) (vF : Value) (psF dO : List (Value × List Int)) (mb n0 : Nat) (pre : List (Value × List Int)) (W : World) : Prop where
  row : ∃ vO, GI w old spv vF psF vO (dO ++ pre.filter (freshB dO)) W ∧ vO.ownBlock ≠ some n0 ∧ vO.ownBlock ≠ some (n0 + 1)
  m : MapF W K9 mb dO.length (keyF (dO.map (·.2)))
  mp : Blk W (mb + 1) 60 #[.map (some mb)]
  big : n0 + 2 ≤ W.heap.size
variable {w W W' : World} {old : Array Value} {spv : Int} {vF : Value} {psF dO pre : List (Value × List Int)} {mb n0 : Nat}
theorem RI.own {B : Nat} (hB : w.heap.size ≤ B) (hm : mb + 2 ≤ B) : OwnFrom B (RI w old spv vF psF dO mb n0) := by
  intro s W W' row h hg hr
  obtain ⟨vO, hG, h1, h2⟩ := h.row
  have hne : ∀ k, k < mb + 2 → some k ≠ row := fun k hk e => by have := (hr k e.symm).1; omega
  exact ⟨⟨vO, GI.own hB (β := Value × List (Value × List Int)) (fun x => x) (vO, _) W W' row hG hg hr, h1, h2⟩, h.m.kept hg (hne _ (by omega)), h.mp.grown hg (hne _ (by omega)), Nat.le_trans h.big hg.size⟩
theorem RI.start {vO : Value} (h : GI w old spv vF psF vO dO W) (hm : MapF W K9 mb dO.length (keyF ((dO.map (·.2)).take dO.length))) (hp : Blk W (mb + 1) 60 #[.map (some mb)]) (hB : Below W.heap.size W W') (hs : W.heap.size + 2 ≤ W'.heap.size) : RI w old spv vF psF dO mb W.heap.size [] W' := by
  rw [List.take_of_length_le (by simp)] at hm
  refine ⟨⟨vO, by simpa using h.up hB, fun e => ?_, fun e => ?_⟩, hm.up hB, hp.below hB, hs⟩
  · have := (h.rO.1.lt _ e).2; omega
  · have := (h.rO.1.lt _ e).2; omega
theorem RI.skip (h : RI w old spv vF psF dO mb n0 pre W) (hB : Below W.heap.size W W') {u : Value} {T : List Int} (hin : bOf (T ∈ dO.map (·.2)) = true) (B : Nat) :
    KeepsFrom B W W' ∧ (∀ k, (k < w.heap.size ∨ k = n0 ∨ k = n0 + 1) → W'.heap[k]? = W.heap[k]?) ∧ RI w old spv vF psF dO mb n0 (pre ++ [(u, T)]) W' := by
  obtain ⟨vO, hG, h1, h2⟩ := h.row
  have hl := hG.low.size
  have hb := h.big
  refine ⟨⟨hB.size, fun k o _ hk _ => (hB.block k (Array.getElem?_eq_some_iff.1 hk).1).trans hk⟩, fun k hk => hB.block k (by omega), ⟨⟨vO, ?_, h1, h2⟩, h.m.up hB, h.mp.below hB, Nat.le_trans hb hB.size⟩⟩
  have : (pre ++ [(u, T)]).filter (freshB dO) = pre.filter (freshB dO) := by
    have e : freshB dO (u, T) = false := by unfold freshB; rw [hin]; rfl
    rw [List.filter_append, List.filter_cons, e]; simp
  rw [this]
  exact hG.up hB
theorem RI.add {W1 W4 : World} {B : Nat} {u vO v4 : Value} {T : List Int} {o : Obj} {n : Nat} {xs : List Value} (h : RI w old spv vF psF dO mb n0 pre W) (hB : Below W.heap.size W W1) (hin : bOf (T ∈ dO.map (·.2)) = false) (hu : W.ownsRow B 3 1 u T.length (T.map iV)) (hBw : w.heap.size + 2 ≤ B) (hn0 : w.heap.size + 2 ≤ n0) (hmb : w.heap.size + 2 ≤ mb)
    (hvO : W.cell? ⟨w.heap.size + 1, 1, none⟩ = some vO) (hn : n = (dO ++ pre.filter (freshB dO)).length + 1) (hxs : xs = (dO ++ pre.filter (freshB dO)).map (·.1) ++ [u]) (hown : W4.ownsRow (w.heap.size + 2) 23 1 v4 n xs) (hg : (W1.alloc o).grownBy W4 vO.ownBlock)
    (hat : v4.ownBlock = vO.ownBlock ∨ v4.ownBlock = some (W1.alloc o).heap.size) (C : Nat) :
    (W4.cell? ⟨w.heap.size + 1, 1, none⟩ = some vO ∧ W4.frozen? ⟨w.heap.size + 1, 1, none⟩ = false) ∧ KeepsFrom C W (W4.setCell ⟨w.heap.size + 1, 1, none⟩ v4) ∧ (∀ k, (k < w.heap.size ∨ k = n0 ∨ k = n0 + 1) → (W4.setCell ⟨w.heap.size + 1, 1, none⟩ v4).heap[k]? = W.heap[k]?) ∧
      RI w old spv vF psF dO mb n0 (pre ++ [(u, T)]) (W4.setCell ⟨w.heap.size + 1, 1, none⟩ v4) := by
  obtain ⟨vO', hG, h1, h2⟩ := h.row
  obtain rfl : vO' = vO := by have := (hG.b1.cell 1).symm.trans hvO; simpa using this
  have hbig := h.big
  have htag : ∀ k cs t fz, W.heap[k]? = some (.cells cs t fz) → t ≠ 23 → some k ≠ vO'.ownBlock := fun k cs t fz hc ht e => by
    obtain ⟨cs', hcs⟩ := own_obj hG.rO.1 e.symm
    rw [hc] at hcs; injection hcs with hcs; injection hcs with _ h2; exact ht h2
  have hua : Apart u vO'.ownBlock := fun a n c e hn => by
    rcases hu.2 with ⟨rfl, _⟩ | ⟨g, cap, cur, hv, _, hgg, _⟩
    · cases e
    · rw [hv] at e
      injection e with e1 e2 e3
      injection e1 with e1
      subst e1
      exact htag _ _ _ _ hgg (by decide)
  have hub : Apart u (some (w.heap.size + 1)) := fun a n c e hn e' => by
    injection e' with e'
    have := newB_of_own hu hBw a n c e hn
    omega
  obtain ⟨⟨_, hb1⟩, hG2, hk, hs⟩ := (hG.up hB).snoc hn hxs hown hg hat ((own_S1 hu).up hB) hua hub
  have hkW : ∀ k, k < W.heap.size → some k ≠ vO'.ownBlock → k ≠ w.heap.size + 1 → (W4.setCell ⟨w.heap.size + 1, 1, none⟩ v4).heap[k]? = W.heap[k]? := fun k a b c => (hk k (Nat.lt_of_lt_of_le a hB.size) b c).trans (hB.block k a)
  have hlow : ∀ k, k < w.heap.size + 2 → some k ≠ vO'.ownBlock := fun k hk e => by have := (hG.rO.1.lt k e.symm).1; omega
  have hll := hG.low.size
  have hncM : ∀ g, vO'.ownBlock = some g → g ≠ mb := fun g hg' e => by
    obtain ⟨cs', hcs⟩ := own_obj hG.rO.1 hg'
    subst e
    have := h.m.noCells hcs; cases this
  refine ⟨⟨hb1.cell 1, hb1.frozen 1⟩, ⟨Nat.le_trans hB.size hs, fun k o' _ hko hc => ?_⟩, fun k hk' => ?_, ⟨⟨v4, ?_, ?_, ?_⟩, ?_, ?_, ?_⟩⟩
  · refine (hkW k (Array.getElem?_eq_some_iff.1 hko).1 (fun e => ?_) (fun e => ?_)).trans hko
    · obtain ⟨cs', hcs⟩ := own_obj hG.rO.1 e.symm
      rw [hko] at hcs; injection hcs with hcs; subst hcs; cases hc
    · subst e
      rw [show W.heap[w.heap.size + 1]? = _ from hG.b1] at hko; injection hko with hko; subst hko; cases hc
  · rcases hk' with hk' | rfl | rfl
    · exact hkW k (by omega) (hlow k (by omega)) (by omega)
    · exact hkW _ (by omega) (fun e => h1 e.symm) (by omega)
    · exact hkW _ (by omega) (fun e => h2 e.symm) (by omega)
  · have : (pre ++ [(u, T)]).filter (freshB dO) = pre.filter (freshB dO) ++ [(u, T)] := by
      have e : freshB dO (u, T) = true := by unfold freshB; rw [hin]; rfl
      rw [List.filter_append, List.filter_cons, e]; simp
    rw [this, ← List.append_assoc]
    exact hG2
  · intro e
    rcases hat with hat | hat
    · exact h1 (hat.symm.trans e)
    · rw [hat] at e; injection e with e; have := hB.size; simp at e; omega
  · intro e
    rcases hat with hat | hat
    · exact h2 (hat.symm.trans e)
    · rw [hat] at e; injection e with e; have := hB.size; simp at e; omega
  · exact (((h.m.up hB).alloc o).kept hg (fun e => hncM mb e.symm rfl)).setCell (by simp only; omega) _
  · exact h.mp.block (hkW _ h.mp.lt (htag _ _ _ _ h.mp (by decide)) (by omega))
  · have := hB.size; omega

theorem fresh_map {ys : List (Value × List Int)} {O' : List (List Int)} {out t : List Int} (hT : dO.map (·.2) = O') (hS : ys.map (·.2) = t.map (brL out)) : (dO ++ ys.filter (freshB dO)).map (·.2) = O' ++ newO O' out t := by
  have e : freshB dO = (fun b : List Int => !(bOf (b ∈ O'))) ∘ (·.2) := by funext p; unfold freshB; rw [hT]; rfl
  rw [List.map_append, hT, e, ← List.filter_map, hS]; rfl
theorem S1.cells {α : Type} {X X' : World} {f : α → Value} {v : Value} {l : List α} (h : S1 X f v l) (hs : X.heap.size ≤ X'.heap.size) (hk : ∀ (k : Nat) (o : Obj), X.heap[k]? = some o → o.isCells = true → X'.heap[k]? = some o) : S1 X' f v l := by
  obtain ⟨A, c, rfl, hc, hm, hA⟩ := h.form
  refine S1.mk hc hm fun h0 => ?_
  obtain ⟨b, off, rfl, hb, hcell⟩ := hA h0
  refine ⟨b, off, rfl, Nat.lt_of_lt_of_le hb hs, fun i x hi => ?_⟩
  obtain ⟨o, ho, hco⟩ := cells_of_cell (hcell i x hi)
  exact (World.cell?_of_block (w := X) (a := ⟨b, off + i, none⟩) ((hk _ o ho hco).trans ho.symm)).trans (hcell i x hi)
theorem SS.cells {X X' : World} {v : Value} {L : List (List Int)} (h : SS X v L) (hs : X.heap.size ≤ X'.heap.size) (hk : ∀ (k : Nat) (o : Obj), X.heap[k]? = some o → o.isCells = true → X'.heap[k]? = some o) : SS X' v L := by
  obtain ⟨ps, e, h1, h2⟩ := h
  exact ⟨ps, e, h1.cells hs hk, fun p hp => (h2 p hp).cells hs hk⟩
/-- The way out behind a range: the list of deferred calls is taken up. -/
theorem give_outD {s : Sr} {t : List Int} {none_ : Bool} {n D : Nat} {cs : Array Value} {vF vO : Value} {s' : Sr} {c : Int} (hb : Blk W (w.heap.size + 1) 36 cs) (hcs : cs = #[vF, vO, .int .i64 s'.sp, .bool s'.dn]) (hF : SS W vF s'.F) (hO : SS W vO s'.O) (hB : Below w.heap.size w W) (hDw : w.heap.size + 2 ≤ D) (hD : W.heap[D]? = some (.deferred (some [])))
    (h : (GiveBad s t none_ ∧ s' = noSr ∧ c = 1) ∨ (¬ GiveBad s t none_ ∧ GiveFull s t none_ ∧ s' = noSr ∧ c = 2) ∨ (¬ GiveBad s t none_ ∧ ¬ GiveFull s t none_ ∧ s' = giveS s t none_ ∧ c = 0)) {a : Act} (hd : a.defers = [{ target := .collected D, args := #[] }]) (h6 : a.tmps.getD 6 undef = .pointer (some ⟨w.heap.size + 1, 0, none⟩)) (h7 : a.tmps.getD 7 undef = .int .i64 c) :
    bodyPostM Fence.wide n Tryz.prog Tryz.f19 (GivePost w s t none_) .ret a W := by
  show LeavesInM _ _ _ _ _ _ a.defers _ _
  rw [hd]
  refine ⟨by simp, .inl ⟨_, _, rfl, run_takeDeferred hD, ?_⟩⟩
  have hb' := hb.block (World.putObj_heap_other (w := W) (r := D) (o := .deferred none) (k := w.heap.size + 1) (by omega))
  have hk : ∀ (k : Nat) (o : Obj), W.heap[k]? = some o → o.isCells = true → (W.putObj D (.deferred none)).heap[k]? = some o := fun k o ho hc => (World.putObj_heap_other (fun e => by subst e; rw [hD] at ho; injection ho with ho; subst ho; cases hc)).trans ho
  have hs : W.heap.size ≤ (W.putObj D (.deferred none)).heap.size := by simp [World.putObj]
  refine ⟨.tuple #[.agg cs, .int .i64 c], ?_, ⟨_, s', c, rfl, ⟨vF, vO, by rw [hcs], hF.cells hs hk, hO.cells hs hk⟩, hB.trans (belowK_b (w := w) (Nat.le_refl _) W D _ _ (by omega) hD rfl rfl), h⟩⟩
  have h6' : a.tmps[6]?.getD undef = .pointer (some ⟨w.heap.size + 1, 0, none⟩) := by simpa using h6
  have h7' : a.tmps[7]?.getD undef = .int .i64 c := by simpa using h7
  rw [results_cell_tmp rfl]
  simp [h6', h7', asAddr, loadSr hb' (by rw [hcs]; rfl), Result.andThen]
end Go.Proofs.YtbmdfnifbimfmaaGreatDoor
