/- The plain law of the reference's Without: it goes on where the other stops. -/
import Derived.Test.YtidaklcinddghaaPr
namespace Go.Proofs.Ytidaklcinddghaa
theorem woL_beyond (hi lo : Int) : ∀ r : List (Int × Int), (∀ y ∈ r, hi < y.1) → woL hi lo r = woFin lo hi
  | [], _ => rfl
  | y :: r, h => by
    by_cases t : y.2 < lo
    · rw [woL_skip t]; exact woL_beyond hi lo r (fun z hz => h z (by simp [hz]))
    · exact woL_stop t (h y (by simp))
theorem woL_on {hi lo : Int} {x : Int × Int} {r : List (Int × Int)} (hs : Sep (x :: r)) (h : x.2 < lo ∨ hi < x.1) : woL hi lo (x :: r) = woL hi lo r := by
  by_cases t : x.2 < lo
  · exact woL_skip t
  · have h' : hi < x.1 := by omega
    obtain ⟨h1, h2, _⟩ := sep_cons.1 hs
    rw [woL_stop t h', woL_beyond hi lo r (fun y hy => by have := h2 y hy; omega)]
theorem sep_drop {u : List (Int × Int)} (hs : Sep u) (k : Nat) : Sep (u.drop k) :=
  ⟨fun x hx => hs.1 x (List.mem_of_mem_drop hx), hs.2.sublist (List.drop_sublist k u)⟩
end Go.Proofs.Ytidaklcinddghaa
