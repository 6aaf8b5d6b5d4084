/- How a search among the arguments is opened. -/
import Derived.Test.YtbmdfnifbimfmaaGreatDoorL0
import Derived.Test.YtbmdfnifbimfmaaGreatDoorC1
namespace Go.Proofs.YtbmdfnifbimfmaaGreatDoor
open Go.ChangeShapes Go.WideShapes Go.ChangeAt Go.RowKit Go.Joins Go.Deep

section
variable {H : Type} {enc : TypeId × Value → H} {w : World} {base : Nat}
set_option maxRecDepth 100000 in
theorem open_ss1 {fuel : Nat} {v : Value} {y : DataW H × List MemPlace} (hf : DataW.trod enc Tryz.prog w base (fun _ => true) true fuel 22 [v] = some y) : ∃ L : List (List Int), SS w v L ∧ wfS L := by
  rcases open_int_rows Tryz.underlying22 Tryz.underlying23 Tryz.underlying3 cellsI cells3 hf with ⟨h0, _⟩ | ⟨a, len, cap, A, Ln, C, Z, hcs, hb, hl, hm, _, hr⟩
  · simp at h0
    subst h0
    exact ⟨[], SS.nil _, fun _ h => by cases h⟩
  · simp at hcs
    subst hcs
    have hps : ∀ i, i < len → SI w (.slice (A i) (Ln i) (C i)) ((Z i).take (Ln i)) := fun i hi => by
      obtain ⟨_, h1, h2, h3, _, h5, h6⟩ := hr i (by omega)
      exact si_of_cells h1 h2 (by omega) h5 (fun a' e c hc => (h6 a' e).2 c (by omega))
    refine ⟨(List.range len).map fun i => (Z i).take (Ln i), ⟨(List.range len).map fun i => (Value.slice (A i) (Ln i) (C i), (Z i).take (Ln i)), by simp, ?_, fun q hq => ?_⟩, fun l hl' x hx => ?_⟩
    · have hlen : ((List.range len).map fun i => (Value.slice (A i) (Ln i) (C i), (Z i).take (Ln i))).length = len := by simp
      have := S1.mk (w := w) (f := fun p : Value × List Int => p.1) (A := some a) (c := cap) (l := (List.range len).map fun i => (Value.slice (A i) (Ln i) (C i), (Z i).take (Ln i))) (by omega) hm (fun h0 => by
        rw [hlen] at h0
        obtain ⟨b, off, spot⟩ := a
        have h1 := (hr 0 (by omega)).1
        have hspot : spot = none := by simpa [Addr.add] using World.cell?_spot h1
        subst hspot
        have h1' : w.cell? ⟨b, off, none⟩ = some (.slice (A 0) (Ln 0) (C 0)) := by simpa [Addr.add] using h1
        refine ⟨b, off, rfl, World.block_lt_of_cell? w _ h1', fun i x hi => ?_⟩
        have hil : i < len := by have := (List.getElem?_eq_some_iff.1 hi).1; omega
        have h2 := (hr i (by omega)).1
        rw [add_lit] at h2
        rw [h2]
        simp [hil] at hi
        rw [← hi])
      rwa [hlen] at this
    · obtain ⟨i, hi, rfl⟩ := List.mem_map.1 hq
      exact hps i (by simpa using hi)
    · obtain ⟨i, hi, rfl⟩ := List.mem_map.1 hl'
      exact (hr i (by have := List.mem_range.1 hi; omega)).2.2.2.2.1 x (List.mem_of_mem_take hx)

set_option maxRecDepth 100000 in
theorem open_sr {b0 : Nat} {r : Reach} {v : Value} {d : DataW H} {p : List MemPlace} (hv : Value.okWide Tryz.prog w r b0 36 v) (h : DataW.Trod enc Tryz.prog w base (fun _ => true) true 36 v d p) : ∃ s : Sr, SrV w v s ∧ wfI s.sp := by
  obtain ⟨v0, v1, v2, v3, y0, y1, y2, y3, n, rfl, _, _, h0, h1, h2, h3⟩ := open_agg4 Tryz.underlying36 (by kernel_rfl) cellsSr hv h
  obtain ⟨F, hF, _⟩ := open_ss1 h0
  obtain ⟨O, hO, _⟩ := open_ss1 h1
  obtain ⟨a, e2, h5, h6⟩ := DataW.trod_int Tryz.underlying3 h2
  obtain ⟨b, e3, _⟩ := DataW.trod_bool Tryz.underlying4 h3
  simp at e2 e3
  subst e2 e3
  exact ⟨⟨F, O, a, b⟩, ⟨v0, v1, rfl, hF, hO⟩, h6⟩
end
end Go.Proofs.YtbmdfnifbimfmaaGreatDoor
