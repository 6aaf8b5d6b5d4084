/- Give: its answers and its memory. -/
import Derived.Test.YtbmdfnifbimfmaaGreatDoorC7
import Derived.Test.YtbmdfnifbimfmaaGreatDoorC2
import Derived.Test.YtbmdfnifbimfmaaGreatDoorG7
import Derived.Laws.ResultCell
import Derived.Deep.RegionHeld3
namespace Go.Proofs.YtbmdfnifbimfmaaGreatDoor
open Go.RowKit Go.Shelf
attribute [local go_sem] Oper.semAt_some

def noSr : Sr := ⟨[], [], 0, false⟩
noncomputable def newO (O' : List (List Int)) (out t : List Int) : List (List Int) := (t.map (brL out)).filter fun b => !(bOf (b ∈ O'))
noncomputable def giveS (s : Sr) (t : List Int) (none_ : Bool) : Sr :=
  if none_ then ⟨s.F, s.O.tail, s.sp + 1, decide (s.O.tail.length = 0)⟩
  else ⟨if bOf (t ∈ s.F) then s.F else insAt s.F (rank s.F t) t, s.O.tail ++ newO s.O.tail (s.O.headD []) t, s.sp + 1, decide ((s.O.tail ++ newO s.O.tail (s.O.headD []) t).length = 0)⟩
def GiveBad (s : Sr) (t : List Int) (none_ : Bool) : Prop := ¬ SrOk s ∨ s.O.length = 0 ∨ (none_ = true ∧ 0 < t.length) ∨ (none_ = false ∧ PlaceBad s.F (s.O.headD []) t)
def GiveFull (s : Sr) (t : List Int) (none_ : Bool) : Prop := none_ = false ∧ t ∉ s.F ∧ 256 ≤ s.F.length
def GivePost (w : World) (s : Sr) (t : List Int) (none_ : Bool) (e : Ending) (w' : World) : Prop :=
  ∃ v' s' c, e = .returned (.tuple #[v', .int .i64 c]) ∧ SrV w' v' s' ∧ Below w.heap.size w w' ∧
    ((GiveBad s t none_ ∧ s' = noSr ∧ c = 1) ∨ (¬ GiveBad s t none_ ∧ GiveFull s t none_ ∧ s' = noSr ∧ c = 2) ∨ (¬ GiveBad s t none_ ∧ ¬ GiveFull s t none_ ∧ s' = giveS s t none_ ∧ c = 0))

theorem loadSr {w : World} {g : Nat} {cs : Array Value} (h : Blk w g 36 cs) (hs : cs.size = 4) : (loadVar 36 ⟨g, 0, none⟩).run Tryz.prog w = .ok (.agg cs) w :=
  run_loadVar_row w g _ _ cs (0, 0) _ h Tryz.underlying36 rfl (by rw [hs]; exact info36s)
/-- The refused way out. -/
theorem give_out {w W : World} {s : Sr} {t : List Int} {none_ : Bool} {n : Nat} {cs : Array Value} {vF vO : Value} {s' : Sr} {c : Int} (hb : Blk W (w.heap.size + 1) 36 cs) (hcs : cs = #[vF, vO, .int .i64 s'.sp, .bool s'.dn]) (hF : SS W vF s'.F) (hO : SS W vO s'.O) (hB : Below w.heap.size w W)
    (h : (GiveBad s t none_ ∧ s' = noSr ∧ c = 1) ∨ (¬ GiveBad s t none_ ∧ GiveFull s t none_ ∧ s' = noSr ∧ c = 2) ∨ (¬ GiveBad s t none_ ∧ ¬ GiveFull s t none_ ∧ s' = giveS s t none_ ∧ c = 0)) {a : Act} (hd : a.defers = []) (h6 : a.tmps.getD 6 undef = .pointer (some ⟨w.heap.size + 1, 0, none⟩)) (h7 : a.tmps.getD 7 undef = .int .i64 c) :
    bodyPostM Fence.wide n Tryz.prog Tryz.f19 (GivePost w s t none_) .ret a W := by
  show LeavesInM _ _ _ _ _ _ a.defers _ _
  rw [hd]
  refine ⟨.tuple #[.agg cs, .int .i64 c], ?_, ⟨_, s', c, rfl, ⟨vF, vO, by rw [hcs], hF, hO⟩, hB, h⟩⟩
  have h6' : a.tmps[6]?.getD undef = .pointer (some ⟨w.heap.size + 1, 0, none⟩) := by simpa using h6
  have h7' : a.tmps[7]?.getD undef = .int .i64 c := by simpa using h7
  rw [results_cell_tmp rfl]
  simp [h6', h7', asAddr, loadSr hb (by rw [hcs]; rfl), Result.andThen]

abbrev set4 (W : World) (g : Nat) (a b c d : Value) : World := (((W.setCell ⟨g, 0, none⟩ a).setCell ⟨g, 1, none⟩ b).setCell ⟨g, 2, none⟩ c).setCell ⟨g, 3, none⟩ d
theorem set4_blk {W : World} {g : Nat} {t : TypeId} {cs : Array Value} {a b c d : Value} (h : Blk W g t cs) (hs : cs.size = 4) : Blk (set4 W g a b c d) g t #[a, b, c, d] := by
  have := (((h.set_ 0 a).set_ 1 b).set_ 2 c).set_ 3 d
  obtain ⟨l⟩ := cs
  match l, hs with
  | [x0, x1, x2, x3], _ => simpa using this
theorem set4_below {w W : World} {g : Nat} {a b c d : Value} (h : Below w.heap.size w W) (hg : w.heap.size ≤ g) : Below w.heap.size w (set4 W g a b c d) := (((h.setCell hg _).setCell hg _).setCell hg _).setCell hg _
theorem set4_ne {W : World} {g k : Nat} {a b c d : Value} (h : k ≠ g) : (set4 W g a b c d).heap[k]? = W.heap[k]? :=
  (heap_set_ne _ _ _ h).trans ((heap_set_ne _ _ _ h).trans ((heap_set_ne _ _ _ h).trans (heap_set_ne _ _ _ h)))
theorem keep4 {W : World} {g n : Nat} {a b c d : Value} {x y z : Option Value} (hne : n ≠ g) (h : W.cell? ⟨n, 0, none⟩ = x ∧ W.cell? ⟨n, 1, none⟩ = y ∧ W.cell? ⟨n, 2, none⟩ = z) :
    (set4 W g a b c d).cell? ⟨n, 0, none⟩ = x ∧ (set4 W g a b c d).cell? ⟨n, 1, none⟩ = y ∧ (set4 W g a b c d).cell? ⟨n, 2, none⟩ = z :=
  ⟨(World.cell?_of_block (w := W) (a := ⟨n, 0, none⟩) (set4_ne hne)).trans h.1, (World.cell?_of_block (w := W) (a := ⟨n, 1, none⟩) (set4_ne hne)).trans h.2.1, (World.cell?_of_block (w := W) (a := ⟨n, 2, none⟩) (set4_ne hne)).trans h.2.2⟩
theorem set4_size {W : World} {g : Nat} {a b c d : Value} : (set4 W g a b c d).heap.size = W.heap.size := by simp [set4]


/-- The search that Give makes: two rows of its own in the block behind the argument's. -/
structure GI (w : World) (old : Array Value) (spv : Int) (vF : Value) (psF : List (Value × List Int)) (vO : Value) (ys : List (Value × List Int)) (W : World) : Prop where
  low : Below w.heap.size w W
  b0 : Blk W w.heap.size 36 old
  b1 : Blk W (w.heap.size + 1) 36 #[vF, vO, .int .i64 spv, .bool false]
  rF : OwnP W (w.heap.size + 2) vF psF
  rO : OwnP W (w.heap.size + 2) vO ys
  dj : ∀ g, vF.ownBlock = some g → vO.ownBlock ≠ some g
  aF : ∀ p ∈ psF, Apart p.1 vO.ownBlock ∧ Apart p.1 (some (w.heap.size + 1))
  aO : ∀ p ∈ ys, Apart p.1 (some (w.heap.size + 1))
variable {w W W' : World} {old : Array Value} {spv : Int} {vF vO : Value} {psF ys : List (Value × List Int)}
theorem OwnP.cells {B : Nat} {v : Value} {ps : List (Value × List Int)} (h : OwnP W B v ps) (hs : W.heap.size ≤ W'.heap.size) (hk : ∀ (k : Nat) (o : Obj), W.heap[k]? = some o → o.isCells = true → W'.heap[k]? = some o) : OwnP W' B v ps :=
  ⟨own_block h.1 fun g hg => by obtain ⟨cs, hcs⟩ := own_obj h.1 hg; rw [hcs]; exact hk g _ hcs rfl,
   fun p hp => ⟨(h.2 p hp).1.block hs fun a n c e hn => by obtain ⟨o, ho, hc⟩ := (h.2 p hp).1.obj e hn; rw [ho]; exact hk _ o ho hc, (h.2 p hp).2⟩⟩
theorem GI.cells (h : GI w old spv vF psF vO ys W) (hB : Below w.heap.size w W') (hs : W.heap.size ≤ W'.heap.size) (hk : ∀ (k : Nat) (o : Obj), W.heap[k]? = some o → o.isCells = true → W'.heap[k]? = some o) : GI w old spv vF psF vO ys W' :=
  ⟨hB, hk _ _ h.b0 rfl, hk _ _ h.b1 rfl, h.rF.cells hs hk, h.rO.cells hs hk, h.dj, h.aF, h.aO⟩
theorem GI.up (h : GI w old spv vF psF vO ys W) (hb : Below W.heap.size W W') : GI w old spv vF psF vO ys W' :=
  h.cells (bAfter h.low hb) hb.size fun k _ ho _ => (hb.block k (Array.getElem?_eq_some_iff.1 ho).1).trans ho
theorem GI.grown {b : Nat} (h : GI w old spv vF psF vO ys W) (hg : W.grownBy W' (some b)) (hb : w.heap.size ≤ b) (hc : ∀ o : Obj, W.heap[b]? = some o → o.isCells = false) : GI w old spv vF psF vO ys W' := by
  refine h.cells (h.low.grown hg h.low.size (fun k e => by cases e; exact hb)) hg.size fun k o ho hoc => (hg.block k (Array.getElem?_eq_some_iff.1 ho).1 fun e => ?_).trans ho
  injection e with e
  subst e
  have := hc o ho
  rw [this] at hoc; cases hoc
theorem GI.own {B : Nat} (hB : w.heap.size ≤ B) {β : Type} (f : β → Value × List (Value × List Int)) : OwnFrom B (fun (s : β) W => GI w old spv vF psF (f s).1 (f s).2 W) := by
  intro s W W' row h hg hr
  refine h.cells (h.low.grown hg h.low.size (fun k e => Nat.le_trans hB (hr k e).1)) hg.size fun k o ho hoc => (hg.block k (Array.getElem?_eq_some_iff.1 ho).1 fun e => ?_).trans ho
  obtain ⟨_, o', ho', hc⟩ := hr k e.symm
  rw [ho] at ho'; injection ho' with ho'; subst ho'
  rw [hc] at hoc; cases hoc

theorem GI.snoc {o : Obj} {W4 : World} {v4 u : Value} {T : List Int} {n : Nat} {xs : List Value} (h : GI w old spv vF psF vO ys W) (hn : n = ys.length + 1) (hxs : xs = ys.map (·.1) ++ [u]) (hown : W4.ownsRow (w.heap.size + 2) 23 1 v4 n xs) (hg : (W.alloc o).grownBy W4 vO.ownBlock)
    (hat : v4.ownBlock = vO.ownBlock ∨ v4.ownBlock = some (W.alloc o).heap.size) (hu : SI W u T) (hua : Apart u vO.ownBlock) (hub : Apart u (some (w.heap.size + 1))) :
    (Blk W4 w.heap.size 36 old ∧ Blk W4 (w.heap.size + 1) 36 #[vF, vO, .int .i64 spv, .bool false]) ∧ GI w old spv vF psF v4 (ys ++ [(u, T)]) (W4.setCell ⟨w.heap.size + 1, 1, none⟩ v4) ∧
      (∀ k, k < W.heap.size → some k ≠ vO.ownBlock → k ≠ w.heap.size + 1 → (W4.setCell ⟨w.heap.size + 1, 1, none⟩ v4).heap[k]? = W.heap[k]?) ∧ W.heap.size ≤ (W4.setCell ⟨w.heap.size + 1, 1, none⟩ v4).heap.size := by
  have hne : ∀ k, k < w.heap.size + 2 → some k ≠ vO.ownBlock := fun k hk e => by have := (h.rO.1.lt k e.symm).1; omega
  have hk4 : ∀ k, k < W.heap.size → some k ≠ vO.ownBlock → W4.heap[k]? = W.heap[k]? := fun k hk hne => (hg.block k (by simp; omega) hne).trans (Below.heap_alloc W o k hk)
  have hk5 : ∀ k, k < W.heap.size → some k ≠ vO.ownBlock → k ≠ w.heap.size + 1 → (W4.setCell ⟨w.heap.size + 1, 1, none⟩ v4).heap[k]? = W.heap[k]? := fun k h1 h2 h3 => (heap_set_ne _ _ _ h3).trans (hk4 k h1 h2)
  have hsz : W.heap.size + 1 ≤ W4.heap.size := by have := hg.size; simpa using this
  have hb0 : Blk W4 w.heap.size 36 old := h.b0.block (hk4 _ h.b0.lt (hne _ (by omega)))
  have hb1 : Blk W4 (w.heap.size + 1) 36 #[vF, vO, .int .i64 spv, .bool false] := h.b1.block (hk4 _ h.b1.lt (hne _ (by omega)))
  have hP4 : OwnP W4 (w.heap.size + 2) v4 (ys ++ [(u, T)]) := (h.rO.alloc o).snoc hn hxs hown hg hat (hu.al o) hua
  have hP : ∀ p ∈ ys ++ [(u, T)], Apart p.1 (some (w.heap.size + 1)) := fun p hp => by
    rcases List.mem_append.1 hp with hp | hp
    · exact h.aO p hp
    · rw [List.mem_singleton.1 hp]; exact hub
  refine ⟨⟨hb0, hb1⟩, ⟨?_, hb0.far (p := ⟨w.heap.size + 1, 1, none⟩) (by simp only; omega) _, ?_, ?_, ⟨own_block hP4.1 fun g hg' => heap_set_ne _ _ _ (fun e => by have := (hP4.1.lt g hg').1; simp only at e; omega), fun p hp => ⟨(hP4.2 p hp).1.block (by rw [size_set]; exact Nat.le_refl _) fun a n c e hn => heap_set_ne _ _ _ (fun e' => hP p hp a n c e hn (by simp only at e'; rw [e'])), (hP4.2 p hp).2⟩⟩, ?_, ?_, hP⟩, hk5, by rw [size_set]; omega⟩
  · exact ((bAl h.low o).grown hg (by have := h.low.size; simp; omega) (fun k e => by have := (h.rO.1.lt k e).1; omega)).setCell (by simp only; omega) _
  · have := hb1.set_ 1 v4
    simpa using this
  · refine ⟨own_block h.rF.1 fun g hg' => hk5 g (h.rF.1.lt g hg').2 (fun e => h.dj g hg' e.symm) (by have := (h.rF.1.lt g hg').1; omega), fun p hp => ⟨(h.rF.2 p hp).1.block (by rw [size_set]; omega) fun a n c e hn => hk5 _ ((h.rF.2 p hp).1.block_lt e hn) ((h.aF p hp).1 a n c e hn) fun e' => (h.aF p hp).2 a n c e hn (by rw [e']), (h.rF.2 p hp).2⟩⟩
  · intro g hg' e
    rcases hat with hat | hat
    · exact h.dj g hg' (hat ▸ e)
    · rw [hat] at e; injection e with e; have := (h.rF.1.lt g hg').2; simp at e; omega
  · intro p hp
    refine ⟨fun a n c e hn e' => ?_, (h.aF p hp).2⟩
    rcases hat with hat | hat
    · exact (h.aF p hp).1 a n c e hn (e'.trans hat)
    · rw [hat] at e'; injection e' with e'; have := (h.rF.2 p hp).1.block_lt e hn; simp at e'; omega

theorem GI.ins {o : Obj} {W4 : World} {v4 : Value} {ps4 : List (Value × List Int)} (h : GI w old spv vF psF vO ys W) (hown : OwnP W4 (w.heap.size + 2) v4 ps4) (hg : (W.alloc o).grownBy W4 vF.ownBlock)
    (hat : ∀ g, v4.ownBlock = some g → vF.ownBlock = some g ∨ (W.alloc o).heap.size ≤ g) (hys : ∀ p ∈ ys, Apart p.1 vF.ownBlock) (ha : ∀ p ∈ ps4, Apart p.1 vO.ownBlock ∧ Apart p.1 (some (w.heap.size + 1))) :
    GI w old spv v4 ps4 vO ys (W4.setCell ⟨w.heap.size + 1, 0, none⟩ v4) := by
  have hne : ∀ k, k < w.heap.size + 2 → some k ≠ vF.ownBlock := fun k hk e => by have := (h.rF.1.lt k e.symm).1; omega
  have hk4 : ∀ k, k < W.heap.size → some k ≠ vF.ownBlock → W4.heap[k]? = W.heap[k]? := fun k hk hne => (hg.block k (by simp; omega) hne).trans (Below.heap_alloc W o k hk)
  have hk5 : ∀ k, k < W.heap.size → some k ≠ vF.ownBlock → k ≠ w.heap.size + 1 → (W4.setCell ⟨w.heap.size + 1, 0, none⟩ v4).heap[k]? = W.heap[k]? := fun k h1 h2 h3 => (heap_set_ne _ _ _ h3).trans (hk4 k h1 h2)
  have hsz : W.heap.size + 1 ≤ W4.heap.size := by have := hg.size; simpa using this
  have hb0 : Blk W4 w.heap.size 36 old := h.b0.block (hk4 _ h.b0.lt (hne _ (by omega)))
  have hb1 : Blk W4 (w.heap.size + 1) 36 #[vF, vO, .int .i64 spv, .bool false] := h.b1.block (hk4 _ h.b1.lt (hne _ (by omega)))
  refine ⟨?_, hb0.far (p := ⟨w.heap.size + 1, 0, none⟩) (by simp only; omega) _, ?_, ⟨own_block hown.1 fun g hg' => heap_set_ne _ _ _ (fun e => by have := (hown.1.lt g hg').1; simp only at e; omega), fun p hp => ⟨(hown.2 p hp).1.block (by rw [size_set]; exact Nat.le_refl _) fun a n c e hn => heap_set_ne _ _ _ (fun e' => (ha p hp).2 a n c e hn (by simp only at e'; rw [e'])), (hown.2 p hp).2⟩⟩, ?_, ?_, ha, h.aO⟩
  · exact ((bAl h.low o).grown hg (by have := h.low.size; simp; omega) (fun k e => by have := (h.rF.1.lt k e).1; omega)).setCell (by simp only; omega) _
  · have := hb1.set_ 0 v4
    simpa using this
  · refine ⟨own_block h.rO.1 fun g hg' => hk5 g (h.rO.1.lt g hg').2 (fun e => h.dj g e.symm hg') (by have := (h.rO.1.lt g hg').1; omega), fun p hp => ⟨(h.rO.2 p hp).1.block (by rw [size_set]; omega) fun a n c e hn => hk5 _ ((h.rO.2 p hp).1.block_lt e hn) (hys p hp a n c e hn) fun e' => h.aO p hp a n c e hn (by rw [e']), (h.rO.2 p hp).2⟩⟩
  · intro g hg' e
    rcases hat g hg' with h1 | h1
    · exact h.dj g h1 e
    · have := (h.rO.1.lt g e).2; simp at h1; omega
/-- Behind the two clones and the store. -/
theorem give_mid {w3 wF wO : World} {dO : List (Value × List Int)} {sp : Int} (hF : OwnP wF w3.drew.heap.size vF psF) (hBF : Below w3.drew.heap.size w3.drew wF) (hO : OwnP wO wF.heap.size vO dO) (hBO : Below wF.heap.size wF wO) (hB : Below w3.heap.size w3 wO) (hsz : w.heap.size + 1 + 1 ≤ w3.heap.size)
    (hb0 : Blk wO w.heap.size 36 old) (hb : Blk wO (w.heap.size + 1) 36 #[.slice none 0 0, .slice none 0 0, .int .i64 0, .bool false]) (hBW : Below w.heap.size w w3) (hap : (∀ p ∈ psF, ∀ a n c, p.1 = .slice (some a) n c → 0 < n → a.block < w.heap.size) ∧ ∀ p ∈ dO, ∀ a n c, p.1 = .slice (some a) n c → 0 < n → a.block < w.heap.size) :
    GI w old sp vF psF vO dO (set4 wO (w.heap.size + 1) vF vO (.int .i64 sp) (.bool false)) := by
  have hs0 : w3.drew.heap.size = w3.heap.size := rfl
  have key : ∀ {B : Nat} {v : Value} {ps : List (Value × List Int)}, OwnP wO B v ps → w3.heap.size ≤ B → (∀ p ∈ ps, ∀ a n c, p.1 = .slice (some a) n c → 0 < n → a.block < w.heap.size) → OwnP (set4 wO (w.heap.size + 1) vF vO (.int .i64 sp) (.bool false)) (w.heap.size + 2) v ps := by
    intro B v ps h hB' ha
    refine ⟨own_block (ownsRow_base' h.1 (by omega)) fun g hg => set4_ne ?_, fun p hp => ⟨(h.2 p hp).1.block (by rw [set4_size]; exact Nat.le_refl _) fun a n c e hn => set4_ne fun e' => by have := ha p hp a n c e hn; omega, (h.2 p hp).2⟩⟩
    have := (h.1.lt g hg).1
    omega
  refine ⟨set4_below (bAfter hBW hB) (by omega), (set4_ne (by omega)).trans hb0, set4_blk hb rfl, key (hF.up hBO) (by omega) hap.1, key hO (by have := hBF.size; omega) hap.2, fun g h1 h2 => ?_, fun p hp => ⟨fun a n c e hn e' => ?_, fun a n c e hn e' => ?_⟩, fun p hp a n c e hn e' => ?_⟩
  · have := (hF.1.lt g h1).2
    have := (hO.1.lt g h2).1
    omega
  · have := hap.1 p hp a n c e hn
    have := (hO.1.lt _ e'.symm).1
    have := hBF.size
    have := hBW.size
    omega
  · have := hap.1 p hp a n c e hn
    injection e' with e'; omega
  · have := hap.2 p hp a n c e hn
    injection e' with e'; omega
end Go.Proofs.YtbmdfnifbimfmaaGreatDoor
