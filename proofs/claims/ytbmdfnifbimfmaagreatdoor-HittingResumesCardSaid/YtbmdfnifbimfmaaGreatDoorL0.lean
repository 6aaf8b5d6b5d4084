/- How the arguments of the hitting laws are opened; the row's condition on strconv's table. -/
import Derived.Test.YtbmdfnifbimfmaaGreatDoorRows
import Derived.Test.YtbmdfnifbimfmaaGreatDoorTie
import Derived.Test.YtbmdfnifbimfmaaGreatDoorCards
import Derived.Test.YtbmdfnifbimfmaaGreatDoorH5
import Derived.WalkKit
import Derived.ProofKit
import Derived.OpenShut
import Derived.ChangeOld
import Derived.Below
import Derived.Deep.Slices
import Derived.Deep.Matrix
import Derived.Deep.Fields
import Derived.ChangeSame
import Derived.Lib.SmallJoins
import Derived.Lib.LaidTab
import Derived.LaidMore
import Derived.Stop.Joined
import Derived.Stop.LaidErr
import Derived.SevenTiedAt
namespace Go.Proofs.YtbmdfnifbimfmaaGreatDoor
open Go.ChangeShapes Go.WideShapes Go.ChangeAt Go.RowKit Go.Joins Go.Deep

theorem own : ownKnob Tryz.prog.godebug = none := by kernel_rfl
theorem laidOut : laidOutB Tryz.prog = true := by kernel_rfl
theorem cells3 : Tryz.prog.cellsOf 3 = 1 := by kernel_rfl
theorem cellsI : Tryz.prog.cellsOf 23 = 1 := by kernel_rfl
theorem cellsSS : Tryz.prog.cellsOf 22 = 1 := by kernel_rfl
theorem cells4 : Tryz.prog.cellsOf 4 = 1 := by kernel_rfl
theorem cellsSr : Tryz.prog.cellsOf 36 = 4 := by kernel_rfl

section
variable {H : Type} {enc : TypeId × Value → H} {w : World} {base : Nat}

/-- Cells that are known by address add up to the list. -/
theorem si_of_cells {A : Option Addr} {n c : Nat} {zs : List Int} (hn : n ≤ c) (hm : c ≤ maxLen) (hz : n ≤ zs.length) (hA : A = none → c = 0) (hc : ∀ a, A = some a → ∀ i, i < n → w.cell? (a.add i) = some (.int .i64 (zs.getD i 0))) : SI w (.slice A n c) (zs.take n) := by
  have hl : (zs.take n).length = n := by rw [List.length_take]; omega
  have := S1.mk (w := w) (f := iV) (A := A) (c := c) (l := zs.take n) (by omega) hm (fun h0 => by
    rw [hl] at h0
    cases A with
    | none => have := hA rfl; omega
    | some a =>
      obtain ⟨b, off, spot⟩ := a
      have h1 := hc _ rfl 0 h0
      have hspot : spot = none := by simpa [Addr.add] using World.cell?_spot h1
      subst hspot
      have h1' : w.cell? ⟨b, off, none⟩ = some (.int .i64 (zs.getD 0 0)) := by simpa [Addr.add] using h1
      refine ⟨b, off, rfl, World.block_lt_of_cell? w _ h1', fun i x hi => ?_⟩
      have hil : i < n := by have := (List.getElem?_eq_some_iff.1 hi).1; omega
      have h2 := hc _ rfl i hil
      rw [add_lit] at h2
      rw [h2, List.getElem?_take, if_pos hil] at *
      rw [List.getD_eq_getElem?_getD, hi]
      rfl)
  rwa [hl] at this

set_option maxRecDepth 100000 in
theorem open_si {b0 : Nat} {r : Reach} {v : Value} {d : DataW H} {p : List MemPlace} (hv : Value.okWide Tryz.prog w r b0 23 v) (h : DataW.Trod enc Tryz.prog w base (fun _ => true) true 23 v d p) : ∃ l : List Int, SI w v l ∧ ∀ x ∈ l, wfI x := by
  obtain ⟨a0, len0, cap0, rfl⟩ := okWide_slice Tryz.underlying23 hv
  obtain ⟨fuel, hf⟩ := h
  rcases open_ints Tryz.underlying23 Tryz.underlying3 cells3 hf with ⟨h0, _⟩ | ⟨a, len, cap, zs, hcs, hb, hl, hm, hz, _, hc, hw⟩
  · simp [Value.cells] at h0
    obtain ⟨rfl, rfl, rfl⟩ := h0
    exact ⟨[], S1.nil _ _, fun _ h => by cases h⟩
  · simp [Value.cells] at hcs
    obtain ⟨rfl, rfl, rfl⟩ := hcs
    simp only [if_true] at hz
    refine ⟨zs.take len0, si_of_cells hl hm (by omega) (fun e => by cases e) (fun a e i hi => ?_), fun x hx => hw x (List.mem_of_mem_take hx)⟩
    cases e
    exact hc i (by rw [hz]; omega)

set_option maxRecDepth 100000 in
theorem open_ss {b0 : Nat} {r : Reach} {v : Value} {d : DataW H} {p : List MemPlace} (hv : Value.okWide Tryz.prog w r b0 22 v) (h : DataW.Trod enc Tryz.prog w base (fun _ => true) true 22 v d p) : ∃ L : List (List Int), SS w v L ∧ wfS L := by
  obtain ⟨a0, len0, cap0, rfl⟩ := okWide_slice Tryz.underlying22 hv
  obtain ⟨fuel, hf⟩ := h
  rcases open_int_rows Tryz.underlying22 Tryz.underlying23 Tryz.underlying3 cellsI cells3 hf with ⟨h0, _⟩ | ⟨a, len, cap, A, Ln, C, Z, hcs, hb, hl, hm, _, hr⟩
  · simp [Value.cells] at h0
    obtain ⟨rfl, rfl, rfl⟩ := h0
    exact ⟨[], SS.nil _, fun _ h => by cases h⟩
  · simp [Value.cells] at hcs
    obtain ⟨rfl, rfl, rfl⟩ := hcs
    have hps : ∀ i, i < len0 → SI w (.slice (A i) (Ln i) (C i)) ((Z i).take (Ln i)) := fun i hi => by
      obtain ⟨_, h1, h2, h3, _, h5, h6⟩ := hr i (by omega)
      exact si_of_cells h1 h2 (by omega) h5 (fun a' e c hc => (h6 a' e).2 c (by omega))
    refine ⟨(List.range len0).map fun i => (Z i).take (Ln i), ⟨(List.range len0).map fun i => (Value.slice (A i) (Ln i) (C i), (Z i).take (Ln i)), by simp, ?_, fun q hq => ?_⟩, fun l hl' x hx => ?_⟩
    · have hlen : ((List.range len0).map fun i => (Value.slice (A i) (Ln i) (C i), (Z i).take (Ln i))).length = len0 := by simp
      have := S1.mk (w := w) (f := fun p : Value × List Int => p.1) (A := some a) (c := cap0) (l := (List.range len0).map fun i => (Value.slice (A i) (Ln i) (C i), (Z i).take (Ln i))) (by omega) hm (fun h0 => by
        rw [hlen] at h0
        obtain ⟨b, off, spot⟩ := a
        have h1 := (hr 0 (by omega)).1
        have hspot : spot = none := by simpa [Addr.add] using World.cell?_spot h1
        subst hspot
        have h1' : w.cell? ⟨b, off, none⟩ = some (.slice (A 0) (Ln 0) (C 0)) := by simpa [Addr.add] using h1
        refine ⟨b, off, rfl, World.block_lt_of_cell? w _ h1', fun i x hi => ?_⟩
        have hil : i < len0 := by have := (List.getElem?_eq_some_iff.1 hi).1; omega
        have h2 := (hr i (by omega)).1
        rw [add_lit] at h2
        rw [h2]
        simp [hil] at hi
        rw [← hi])
      rwa [hlen] at this
    · obtain ⟨i, hi, rfl⟩ := List.mem_map.1 hq
      exact hps i (by simpa using hi)
    · obtain ⟨i, hi, rfl⟩ := List.mem_map.1 hl'
      exact (hr i (by have := List.mem_range.1 hi; omega)).2.2.2.2.1 x (List.mem_of_mem_take hx)
end

/-! ### The condition -/
abbrev laid3 : List (String × DataW Unit) := Rows.hittingMinimalSpecRow.laid
theorem tab_of_laid {W : World} (h : laidMetH Tryz.prog laid3 W) : Tab W := by
  rw [MakeChecks.laidMetH_plain _ _ _ (by kernel_rfl)] at h
  exact Lib.tabIs_of_head (g := 0) (t := 140) (n := 20) (e := 108) (by kernel_rfl) (by kernel_rfl) (by kernel_rfl) (by kernel_rfl) (by kernel_rfl) (by kernel_rfl) (show laidMet Tryz.prog (("internal/strconv.uint64pow10", Lib.tabData .u64 Lib.pow10Tab) :: []) W from h.tail.tail)
theorem door_met (os : Os) (args : Array Value) : laidMetH Tryz.prog laid3 ((World.doorLaid Tryz.prog 400 os).forCall (fun _ _ => 0) ⟨#[], args, []⟩).memory :=
  laidMetH_of_parts3 (fuel := 8) (laidMet_of_run' 8 (by kernel_rfl) (by kernel_rfl)) (by kernel_rfl) (by kernel_rfl)
end Go.Proofs.YtbmdfnifbimfmaaGreatDoor
