/- A region that draws its order, whose operations only read and whose callees only make new memory: one walk in the order of the text, over the class of all worlds that extend the one at hand. -/
import Derived.BigQuiet
import Derived.Deep.QuietTactic
import Derived.Test.YtidaklcinddghaaMem
namespace Go.Proofs.Ytidaklcinddghaa
open Go.RowKit

/-- A world in which all that lay in w lies as it lay. -/
def Later (w : World) : Type := { W : World // Below w.heap.size w W }
def Later.at {w : World} (s : Later w) : World := s.1
theorem Later.below {w : World} (s : Later w) : Below w.heap.size w s.at := s.2

instance Later.nonempty (w : World) : Nonempty (Later w) := ⟨⟨w, Below.refl _ _⟩⟩

theorem wp_region_later {P : Program} {id : Nat} {Q : Exit → Act → World → Prop} {a : Act} {w : World} {l : List Oper} (hm : P.follows .mixedOrders = true) (hB : Region.lexB .any l.toArray = true)
    (h : wpQuiet P l.toArray (fun w' => ∃ s : Later w, w' = s.at) (fun a' => ∀ w', (∃ s : Later w, w' = s.at) → Q .normal a' w') l a) : (Code.region id l.toArray true).wp P Q a w :=
  wp_region_quiet (C := fun w' => ∃ s : Later w, w' = s.at) hm hB ⟨⟨_, (Below.refl _ w).drew⟩, rfl⟩ (by simpa using h)

theorem later_of {P : Program} {f : FuncId} {args : Array Value} {w : World} {s : Later w} {v : Value}
    (h : Calls P f args s.at fun e w' => e = .returned v ∧ Below s.at.heap.size s.at w') : Calls P f args s.at fun e w'' => e = .returned v ∧ ∃ s' : Later w, w'' = s'.at :=
  h.mono fun _ w' ⟨he, hb⟩ => ⟨he, ⟨w', bAfter s.2 hb⟩, rfl⟩
theorem later_cell {w : World} {g : Nat} {t : TypeId} {cs : Array Value} (h : Blk w g t cs) (i : Nat) {u : Value} (hi : cs[i]? = some u) : ∀ s : Later w, s.at.cell? ⟨g, i, none⟩ = some u :=
  fun s => ((bk s.2 h).cell i).trans hi
theorem later_old {w : World} {p : Addr} {u : Value} (h : w.cell? p = some u) : ∀ s : Later w, s.at.cell? p = some u :=
  fun s => (s.below.cell (World.block_lt_of_cell? w p h)).trans h
end Go.Proofs.Ytidaklcinddghaa
