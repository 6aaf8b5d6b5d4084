/- The plain functions of package interval: what they compute, on lists of pairs of integers. -/
namespace Go.Proofs.Ytidaklcinddghaa

/-- The value of Check. -/
def chk (x : Int × Int) : Int := if x.1 < -1099511627776 ∨ x.2 < -1099511627776 ∨ 1099511627776 < x.1 ∨ 1099511627776 < x.2 then 1 else if x.2 < x.1 then 80 else 0
def chkStep (e : Int) (x : Int × Int) : Int := if e = 0 then chk x else e
/-- The error of a list. -/
def chkAll (l : List (Int × Int)) : Int := l.foldl chkStep 0

/-- A valid interval. -/
def Ok (x : Int × Int) : Prop := -1099511627776 ≤ x.1 ∧ x.1 ≤ x.2 ∧ x.2 ≤ 1099511627776
theorem ok_of_chk {x : Int × Int} (h : chk x = 0) : Ok x := by
  unfold chk at h
  unfold Ok
  by_cases h1 : x.1 < -1099511627776 ∨ x.2 < -1099511627776 ∨ 1099511627776 < x.1 ∨ 1099511627776 < x.2
  · rw [if_pos h1] at h; cases h
  · rw [if_neg h1] at h
    by_cases h2 : x.2 < x.1
    · rw [if_pos h2] at h; cases h
    · omega
theorem chk_of_ok {x : Int × Int} (h : Ok x) : chk x = 0 := by
  unfold Ok at h
  unfold chk
  rw [if_neg (by omega), if_neg (by omega)]
theorem fold_ne (e : Int) (h : e ≠ 0) : ∀ l : List (Int × Int), l.foldl chkStep e = e
  | [] => rfl
  | x :: l => by rw [List.foldl_cons, chkStep, if_neg h]; exact fold_ne e h l
theorem chkAll_cons (x : Int × Int) (l : List (Int × Int)) : chkAll (x :: l) = if chk x = 0 then chkAll l else chk x := by
  unfold chkAll
  rw [List.foldl_cons, chkStep, if_pos rfl]
  by_cases h : chk x = 0
  · rw [if_pos h, h]
  · rw [if_neg h, fold_ne _ h]
theorem ok_of_chkAll : ∀ {l : List (Int × Int)}, chkAll l = 0 → ∀ x ∈ l, Ok x
  | [], _, _, h => by cases h
  | y :: l, h, x, hx => by
    rw [chkAll_cons] at h
    by_cases h1 : chk y = 0
    · rw [if_pos h1] at h
      rcases List.mem_cons.1 hx with rfl | hx
      · exact ok_of_chk h1
      · exact ok_of_chkAll h x hx
    · rw [if_neg h1] at h; exact absurd h h1
theorem chkAll_of_ok : ∀ {l : List (Int × Int)}, (∀ x ∈ l, Ok x) → chkAll l = 0
  | [], _ => rfl
  | y :: l, h => by
    rw [chkAll_cons, if_pos (chk_of_ok (h y (by simp)))]
    exact chkAll_of_ok fun x hx => h x (by simp [hx])

/-- Joining what follows to x while it touches. -/
def joinGo : Int × Int → List (Int × Int) → List (Int × Int)
  | x, [] => [x]
  | x, y :: r => if y.1 ≤ x.2 + 1 then joinGo (x.1, max x.2 y.2) r else x :: joinGo y r
/-- The separated list of a list that is sorted by its lower ends. -/
def joinL : List (Int × Int) → List (Int × Int)
  | [] => []
  | x :: r => joinGo x r

theorem joinGo_hit {x y : Int × Int} {r : List (Int × Int)} (h : y.1 ≤ x.2 + 1) : joinGo x (y :: r) = joinGo (x.1, max x.2 y.2) r := if_pos h
theorem joinGo_miss {x y : Int × Int} {r : List (Int × Int)} (h : ¬ y.1 ≤ x.2 + 1) : joinGo x (y :: r) = x :: joinL (y :: r) := if_neg h
theorem joinGo_nil (x : Int × Int) : joinGo x [] = x :: joinL [] := rfl
theorem drop_get (l : List (Int × Int)) (n : Nat) (y : Int × Int) (h : l[n]? = some y) : l.drop n = y :: l.drop (n + 1) := by
  obtain ⟨hn, rfl⟩ := List.getElem?_eq_some_iff.1 h
  exact List.drop_eq_getElem_cons hn

/-- What is left at the end. -/
def woFin (lo hi : Int) : List (Int × Int) := if lo ≤ hi then [(lo, hi)] else []
/-- The integers from lo to hi that are in none of a separated list, as intervals. -/
def woL (hi : Int) : Int → List (Int × Int) → List (Int × Int)
  | lo, [] => woFin lo hi
  | lo, u :: r => if u.2 < lo then woL hi lo r else if hi < u.1 then woFin lo hi else if lo < u.1 then (lo, u.1 - 1) :: woL hi (u.2 + 1) r else woL hi (u.2 + 1) r

theorem woL_skip {hi lo : Int} {u : Int × Int} {r : List (Int × Int)} (h : u.2 < lo) : woL hi lo (u :: r) = woL hi lo r := if_pos h
theorem woL_stop {hi lo : Int} {u : Int × Int} {r : List (Int × Int)} (h : ¬ u.2 < lo) (h2 : hi < u.1) : woL hi lo (u :: r) = woFin lo hi := by
  rw [woL, if_neg h, if_pos h2]
theorem woL_take {hi lo : Int} {u : Int × Int} {r : List (Int × Int)} (h : ¬ u.2 < lo) (h2 : ¬ hi < u.1) (h3 : lo < u.1) : woL hi lo (u :: r) = (lo, u.1 - 1) :: woL hi (u.2 + 1) r := by
  rw [woL, if_neg h, if_neg h2, if_pos h3]
theorem woL_pass {hi lo : Int} {u : Int × Int} {r : List (Int × Int)} (h : ¬ u.2 < lo) (h2 : ¬ hi < u.1) (h3 : ¬ lo < u.1) : woL hi lo (u :: r) = woL hi (u.2 + 1) r := by
  rw [woL, if_neg h, if_neg h2, if_neg h3]
end Go.Proofs.Ytidaklcinddghaa
