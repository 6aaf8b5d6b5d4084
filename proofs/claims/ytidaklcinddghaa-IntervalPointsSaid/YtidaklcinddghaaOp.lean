/- How the arguments of the interval laws are opened. -/
import Derived.Test.YtidaklcinddghaaRows
import Derived.WalkKit
import Derived.ProofKit
import Derived.OpenShut
import Derived.ChangeOld
import Derived.Below
import Derived.Deep.Slices
import Derived.Deep.Fields
import Derived.ChangeSame
import Derived.Lib.SmallJoins
import Derived.Test.YtidaklcinddghaaA0
namespace Go.Proofs.Ytidaklcinddghaa
open Go.ChangeShapes Go.WideShapes Go.ChangeAt Go.RowKit Go.Joins Go.Deep

theorem own : ownKnob Try.prog.godebug = none := by kernel_rfl
theorem laidOut : laidOutB Try.prog = true := by kernel_rfl
theorem cells23 : Try.prog.cellsOf 23 = 2 := by kernel_rfl

section
variable {H : Type} {enc : TypeId × Value → H} {w : World} {base : Nat} {spare : Nat → Bool} {held : Bool}
theorem open_iv {b0 : Nat} {r : Reach} {v : Value} {d : DataW H} {p : List MemPlace} (hv : Value.okWide Try.prog w r b0 23 v) (h : DataW.Trod enc Try.prog w base spare held 23 v d p) : ∃ x : Int × Int, v = ivV x := by
  obtain ⟨c0, c1, y0, y1, m, rfl, _, _, hy0, hy1⟩ := open_agg2 Try.underlying23 (by kernel_rfl) cells23 hv h
  obtain ⟨a, e0, _, _⟩ := DataW.trod_int Try.underlying3 hy0
  obtain ⟨b, e1, _, _⟩ := DataW.trod_int Try.underlying3 hy1
  simp at e0 e1
  subst e0 e1
  exact ⟨(a, b), rfl⟩

theorem open_ivs {b0 : Nat} {r : Reach} {v : Value} {d : DataW H} {p : List MemPlace} (hv : Value.okWide Try.prog w r b0 24 v) (h : DataW.Trod enc Try.prog w base spare held 24 v d p) : ∃ l : List (Int × Int), SlIv w v l := by
  obtain ⟨a0, len0, cap0, rfl⟩ := okWide_slice Try.underlying24 hv
  obtain ⟨fuel, hf⟩ := h
  rcases open_slice Try.underlying24 hf with ⟨h0, _⟩ | ⟨a, len, cap, m, n, D, Pl, hcs, hb, hl, hm, hmm, hx, hi⟩
  · simp [Value.cells] at h0
    obtain ⟨rfl, rfl, rfl⟩ := h0
    exact ⟨[], Sl.nil _ _ _ _⟩
  · simp [Value.cells] at hcs
    obtain ⟨rfl, rfl, rfl⟩ := hcs
    have hlm : len0 ≤ m := by rw [hmm]; split <;> omega
    have hel : ∀ i, i < len0 → ∃ x : Int × Int, w.cell? (a.add (i * 2)) = some (.int .i64 x.1) ∧ w.cell? (a.add (i * 2 + 1)) = some (.int .i64 x.2) := by
      intro i hi'
      obtain ⟨cs, hc, ht⟩ := hi i (by omega)
      rw [cells23] at hc
      obtain ⟨ys, n', hn', hy, hlen, hyl, hf'⟩ := DataW.trod_struct Try.underlying23 ht
      obtain ⟨_, hcl, hat⟩ := World.cells?_some hc
      match cs, hcl with
      | [u0, u1], _ =>
        have g0 := hf' 0 _ rfl
        have g1 := hf' 1 _ rfl
        match ys, hyl with
        | [z0, z1], _ =>
          have q0 : Try.prog.cellsOf 3 = 1 := by kernel_rfl
          simp [q0] at g0 g1
          obtain ⟨x0, e0, _, _⟩ := DataW.trod_int Try.underlying3 g0
          obtain ⟨x1, e1, _, _⟩ := DataW.trod_int Try.underlying3 g1
          simp at e0 e1
          subst e0 e1
          have c0 := hat 0 (by omega)
          have c1 := hat 1 (by omega)
          rw [Go.Deep.add_add] at c0 c1
          exact ⟨(x0, x1), by simpa using c0, by simpa using c1⟩
    have hex : ∃ f : Nat → Int × Int, ∀ i, i < len0 → w.cell? (a.add (i * 2)) = some (.int .i64 (f i).1) ∧ w.cell? (a.add (i * 2 + 1)) = some (.int .i64 (f i).2) :=
      ⟨fun i => if h : i < len0 then Classical.choose (hel i h) else (0, 0), fun i hi' => by simp only [dif_pos hi']; exact Classical.choose_spec (hel i hi')⟩
    obtain ⟨f, hf'⟩ := hex
    refine ⟨(List.range len0).map f, some a, cap0, by simp, by simp; exact hl, hm, fun hpos => ?_⟩
    have hpos' : 0 < len0 := by simpa using hpos
    obtain ⟨b, off, spot⟩ := a
    have hc := (hf' 0 hpos').1
    have hspot : spot = none := by simpa [Addr.add] using World.cell?_spot hc
    subst hspot
    have hc0 : w.cell? ⟨b, off, none⟩ = some (.int .i64 (f 0).1) := by simpa [Addr.add] using hc
    refine ⟨b, off, rfl, World.block_lt_of_cell? w _ hc0, fun i x hi' j u hj => ?_⟩
    have hil : i < len0 := by
      rcases Nat.lt_or_ge i len0 with h | h
      · exact h
      · rw [List.getElem?_eq_none (by simp; exact h)] at hi'; cases hi'
    have hx : x = f i := by simpa [hil] using hi'.symm
    subst hx
    obtain ⟨k0, k1⟩ := hf' i hil
    rw [add_lit] at k0 k1
    match j, hj with
    | 0, hj => simp [encIv] at hj; subst hj; simpa using k0
    | 1, hj => simp [encIv] at hj; subst hj; rw [Nat.add_assoc]; exact k1
    | j + 2, hj => simp [encIv] at hj
end
end Go.Proofs.Ytidaklcinddghaa
