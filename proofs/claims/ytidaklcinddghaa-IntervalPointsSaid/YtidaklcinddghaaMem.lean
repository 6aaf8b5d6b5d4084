/- Words for memory: a slice value that reads as a list (elements of k cells each), and how it is kept. -/
import Derived.Below
import Derived.Laws.OwnMore
import Derived.Deep.AppendLies
import Derived.Deep.Draws
import Derived.Lib.Hide
namespace Go.Proofs.Ytidaklcinddghaa
open Go.RowKit

theorem ret_int {k : IntKind} {a b : Int} (h : a = b) : Ending.returned (.int k a) = .returned (.int k b) := by rw [h]
theorem ret_bool {a b : Bool} (h : a = b) : Ending.returned (.bool a) = .returned (.bool b) := by rw [h]

theorem block_of_add (a : Addr) (n : Nat) : (a.add n).block = a.block := by unfold Addr.add; split <;> rfl
theorem add_of_add (a : Addr) (i j : Nat) : (a.add i).add j = a.add (i + j) := by
  unfold Addr.add
  by_cases hi : i = 0 <;> by_cases hj : j = 0 <;> simp [hi, hj, Nat.add_assoc]
theorem add_lit (b o i : Nat) : (⟨b, o, none⟩ : Addr).add i = ⟨b, o + i, none⟩ := by
  unfold Addr.add; split <;> simp_all

theorem bAl {w W : World} (h : Below w.heap.size w W) (o : Obj) : Below w.heap.size w (W.alloc o) := h.alloc h.size o
theorem bAfter {w W W' : World} (h : Below w.heap.size w W) (k : Below W.heap.size W W') : Below w.heap.size w W' := h.trans (k.mono h.size)
theorem bAft {B : Nat} {w W W' : World} (k : Below W.heap.size W W') (h : Below B w W) (hB : B ≤ w.heap.size) : Below B w W' := h.trans (k.mono (Nat.le_trans hB h.size))
theorem bAftH {B : Nat} {w W0 W W' : World} (k : Below W.heap.size W W') (h : Below B w W0) (hB : B ≤ W0.heap.size) (e : W.heap = W0.heap) (ho : W.os = W0.os) (ht : W.tape = W0.tape) (hu : W.output = W0.output) : Below B w W' :=
  h.trans ⟨k.os.trans ho, k.tape.trans ht, k.output.trans hu, by rw [← e]; exact k.size, fun i hi => by rw [k.block i (by rw [e]; omega), e]⟩
theorem bSt {w W : World} (h : Below w.heap.size w W) {p : Addr} (hp : w.heap.size ≤ p.block) (u : Value) : Below w.heap.size w (W.setCell p u) := h.setCell hp u
theorem bDrN {B : Nat} {a w : World} (h : Below B a w) (n : Nat) : Below B a (w.drewN n) := ⟨h.os, h.tape, h.output, h.size, h.block⟩
theorem bcell {W w1 : World} (hb : Below W.heap.size W w1) : (∀ b o, b < W.heap.size → w1.cell? ⟨b, o, none⟩ = W.cell? ⟨b, o, none⟩) ∧ (∀ b o, b < W.heap.size → w1.frozen? ⟨b, o, none⟩ = W.frozen? ⟨b, o, none⟩) :=
  ⟨fun b o h => hb.cell (p := ⟨b, o, none⟩) h, fun b o h => hb.frozen (p := ⟨b, o, none⟩) h⟩
theorem cell_alloc_new (w : World) (cs : Array Value) (t : TypeId) (o : Nat) : (w.alloc (.cells cs t)).cell? ⟨w.heap.size, o, none⟩ = cs[o]? := by
  have := heap_alloc_new w (.cells cs t)
  simp only [World.cell?, this]
  simp

def Blk (w : World) (g : Nat) (t : TypeId) (cs : Array Value) : Prop := w.heap[g]? = some (.cells cs t (0, 0))
section
variable {w w' : World} {g : Nat} {t : TypeId} {cs : Array Value}
theorem Blk.lt (h : Blk w g t cs) : g < w.heap.size := by
  rcases Nat.lt_or_ge g w.heap.size with hlt | hge
  · exact hlt
  · unfold Blk at h; rw [Array.getElem?_eq_none hge] at h; cases h
theorem Blk.cell (h : Blk w g t cs) (i : Nat) : w.cell? ⟨g, i, none⟩ = cs[i]? := cell_of_row w g i cs t (0, 0) h
theorem Blk.frozen (h : Blk w g t cs) (i : Nat) : w.frozen? ⟨g, i, none⟩ = false := by
  unfold Blk at h
  simp [World.frozen?, h]
theorem Blk.new (w : World) (t : TypeId) (cs : Array Value) : Blk (w.alloc (.cells cs t)) w.heap.size t cs := heap_alloc_new w _
theorem Blk.newAt (w : World) (t : TypeId) (cs : Array Value) {n : Nat} (h : n = w.heap.size) : Blk (w.alloc (.cells cs t)) n t cs := by subst h; exact heap_alloc_new w _
theorem Blk.drew (h : Blk w g t cs) : Blk w.drew g t cs := h
theorem Blk.drewN (h : Blk w g t cs) (n : Nat) : Blk (w.drewN n) g t cs := h
theorem Blk.alloc (h : Blk w g t cs) (o : Obj) : Blk (w.alloc o) g t cs := (Below.heap_alloc w o g h.lt).trans h
theorem Blk.set_ (h : Blk w g t cs) (i : Nat) (u : Value) : Blk (w.setCell ⟨g, i, none⟩ u) g t (cs.setIfInBounds i u) := by
  unfold Blk at h ⊢
  simp [World.setCell, Array.getElem?_modify, h]
theorem Blk.far (h : Blk w g t cs) {p : Addr} (hp : g ≠ p.block) (u : Value) : Blk (w.setCell p u) g t cs := (Below.heap_setCell w p u g hp).trans h
theorem Blk.below (h : Blk w g t cs) (hb : Below w.heap.size w w') : Blk w' g t cs := (hb.block g h.lt).trans h
theorem bk (hb : Below w.heap.size w w') (h : Blk w g t cs) : Blk w' g t cs := (hb.block g h.lt).trans h
theorem Blk.grown {row : Option Nat} (h : Blk w g t cs) (hb : w.grownBy w' row) (hg : some g ≠ row) : Blk w' g t cs := (hb.block g h.lt hg).trans h
end

/-- The cells of the row: element i, cell j lies at off + i * k + j. -/
def CellsAt {α : Type} (w : World) (enc : α → List Value) (k b off : Nat) (l : List α) : Prop :=
  ∀ i x, l[i]? = some x → ∀ j u, (enc x)[j]? = some u → w.cell? ⟨b, off + i * k + j, none⟩ = some u

/-- The slice value v reads as the list l in w, and lies below block B. -/
def Sl {α : Type} (w : World) (B : Nat) (enc : α → List Value) (k : Nat) (v : Value) (l : List α) : Prop :=
  ∃ A c, v = .slice A l.length c ∧ l.length ≤ c ∧ c ≤ maxLen ∧ (0 < l.length → ∃ b off, A = some ⟨b, off, none⟩ ∧ b < B ∧ CellsAt w enc k b off l)

section
variable {α : Type} {w w' : World} {B B' : Nat} {enc : α → List Value} {k : Nat} {v : Value} {l : List α}

theorem CellsAt.keep {b off : Nat} (h : CellsAt w enc k b off l) (hk : ∀ o, w'.cell? ⟨b, o, none⟩ = w.cell? ⟨b, o, none⟩) : CellsAt w' enc k b off l :=
  fun i x hi j u hj => (hk _).trans (h i x hi j u hj)
theorem Sl.keep (h : Sl w B enc k v l) (hk : ∀ p : Addr, p.block < B → w'.cell? p = w.cell? p) : Sl w' B enc k v l := by
  obtain ⟨A, c, hv, hc, hm, hA⟩ := h
  refine ⟨A, c, hv, hc, hm, fun hl => ?_⟩
  obtain ⟨b, off, e, hb, hcell⟩ := hA hl
  exact ⟨b, off, e, hb, hcell.keep fun o => hk _ hb⟩
theorem Sl.more (h : Sl w B enc k v l) (hB : B ≤ B') : Sl w B' enc k v l := by
  obtain ⟨A, c, hv, hc, hm, hA⟩ := h
  refine ⟨A, c, hv, hc, hm, fun hl => ?_⟩
  obtain ⟨b, off, e, hb, hcell⟩ := hA hl
  exact ⟨b, off, e, by omega, hcell⟩
theorem Sl.below (h : Sl w B enc k v l) (hb : Below B w w') : Sl w' B enc k v l := h.keep fun _ hp => hb.cell hp
theorem Sl.nil (w : World) (B : Nat) (enc : α → List Value) (k : Nat) : Sl w B enc k (.slice none 0 0) [] := ⟨none, 0, rfl, Nat.le_refl _, by simp [maxLen], fun h => by simp at h⟩
theorem Sl.len_le (h : Sl w B enc k v l) : l.length ≤ maxLen := by obtain ⟨A, c, _, h1, h2, _⟩ := h; omega
end
end Go.Proofs.Ytidaklcinddghaa
