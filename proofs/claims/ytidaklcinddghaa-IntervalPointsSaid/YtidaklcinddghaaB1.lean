import Derived.Test.YtidaklcinddghaaB0
namespace Go.Proofs.Ytidaklcinddghaa
open Go.RowKit Go.Shelf

theorem slUp {w w' : World} (hb : Below w.heap.size w w') {v : Value} {l : List (Int × Int)} (h : SlIv w v l) : SlIv w' v l := (h.below hb).more hb.size
theorem slAl {w : World} {v : Value} {l : List (Int × Int)} (h : SlIv w v l) (o : Obj) : SlIv (w.alloc o) v l := slUp ((Below.refl _ _).alloc (Nat.le_refl _) _) h

/-- A slice literal. -/
theorem slLit (w : World) (n : Nat) (hn : n = w.heap.size) (t : TypeId) (cs : Array Value) (l : List (Int × Int)) (m : Nat) (hm : m = l.length) (h : cs = (l.flatMap encIv).toArray) (hl : l.length ≤ 1000000) :
    SlIv (w.alloc (.cells cs t)) (.slice (some ⟨n, 0, none⟩) m m) l := by
  subst hn hm h
  refine ⟨_, l.length, rfl, Nat.le_refl _, by simp only [maxLen]; omega, fun _ => ⟨w.heap.size, 0, rfl, by simp, ?_⟩⟩
  intro i x hi j u hj
  have hj2 : j < 2 := by
    rcases Nat.lt_or_ge j 2 with h | h
    · exact h
    · rw [List.getElem?_eq_none (by simp [encIv]; exact h)] at hj; cases hj
  have hf := flatMap_get encIv 2 (fun _ => rfl) l i j x hi hj2
  rw [cell_alloc_new]
  rw [hj] at hf
  simpa using hf

theorem unionEx : unionR [(5, 6), (1, 2), (3, 3)] = [(1, 3), (5, 6)] ∧ chkAll [(5, 6), (1, 2), (3, 3)] = 0 := by decide
theorem insideEx : insideR (1, 3) [(1, 3), (5, 6)] = true ∧ bothE (1, 3) [(1, 3), (5, 6)] = 0 := by decide
theorem withoutEx : withoutR (0, 9) [(1, 3), (5, 6)] = [(0, 0), (4, 4), (7, 9)] ∧ bothE (0, 9) [(1, 3), (5, 6)] = 0 := by decide
theorem meetEx : meetV (1, 5) (4, 9) = ((4, 5), 0) ∧ meetV (1, 2) (3, 4) = ((0, 0), 80) := by decide
theorem chkEx : chk (3, 2) = 80 ∧ chk (0, 1099511627777) = 1 := by decide

set_option maxRecDepth 100000 in
set_option maxHeartbeats 4000000 in
theorem sane_any (w : World) : Calls Try.prog 10 #[] w fun e w' => e = .returned (.bool true) ∧ Below w.heap.size w w' := by
  have hq := guard23
  have heq := eql23
  go_enter Try.func10, Try.ntmps10
  go_wp2_with fail
  refine (Union_c _ [(5, 6), (1, 2), (3, 3)] _ (by exact slLit _ _ (by first | rfl | simp) _ _ _ _ rfl rfl (by simp)) (by simp)).mono ?_
  rintro e w1 ⟨v1, rfl, hr1, hB1⟩
  rw [unionEx.1] at hr1
  rw [unionEx.2]
  have S1 := own_sl hr1 (Nat.le_refl _)
  have HS1 := Lib.hid S1
  have hBa := bAfter (bAl (Below.refl _ w) _) hB1
  clear hr1 S1 hB1
  go_wp2_with fail
  refine (Inside_c (1, 3) _ _ _ HS1.out (by simp)).mono ?_
  rintro e w2 ⟨rfl, hB2⟩
  rw [insideEx.1, insideEx.2]
  have HS2 := Lib.hid (slUp hB2 HS1.out)
  replace hBa := bAfter hBa hB2
  clear HS1 hB2
  go_wp2_with fail
  refine (Without_c (0, 9) _ _ _ HS2.out (by simp)).mono ?_
  rintro e w3 ⟨v3, rfl, hr3, hB3⟩
  rw [withoutEx.1] at hr3
  rw [withoutEx.2]
  have HT := Lib.hid (own_sl hr3 (Nat.le_refl _))
  have HS3 := Lib.hid (slUp hB3 HS2.out)
  replace hBa := bAfter hBa hB3
  clear HS2 hB3 hr3
  go_wp2_with fail
  refine (meet_any (1, 5) (4, 9) _).mono ?_
  rintro e w4 ⟨rfl, hB4⟩
  rw [meetEx.1]
  have HS4 := Lib.hid (slUp hB4 HS3.out)
  have HT4 := Lib.hid (slUp hB4 HT.out)
  replace hBa := bAfter hBa hB4
  clear HS3 hB4 HT
  go_wp2_with fail
  refine (meet_any (1, 2) (3, 4) _).mono ?_
  rintro e w5 ⟨rfl, hB5⟩
  rw [meetEx.2]
  have HS5 := Lib.hid (slUp hB5 (slAl HS4.out _))
  have HT5 := Lib.hid (slUp hB5 (slAl HT4.out _))
  have hM := bk hB5 (Blk.new w4 23 #[.int .i64 4, .int .i64 5])
  have m0 : w5.cell? ⟨w4.heap.size, 0, none⟩ = some (.int .i64 4) := hM.cell 0
  have m1 : w5.cell? ⟨w4.heap.size, 1, none⟩ = some (.int .i64 5) := hM.cell 1
  have hlt := hM.lt
  replace hBa := bAfter (bAl hBa _) hB5
  clear HS4 hB5 HT4
  go_wp2_with fail
  refine (same_any _ _ [(1, 3), (5, 6)] [(1, 3), (5, 6)] _ (slAl (slAl HS5.out _) _) (by exact slLit _ _ (by simp) _ _ _ _ rfl rfl (by simp))).mono ?_
  rintro e w6 ⟨rfl, hB6⟩
  rw [show decide ([((1, 3) : Int × Int), (5, 6)] = [(1, 3), (5, 6)]) = true from by decide]
  have HT6 := Lib.hid (slUp hB6 (slAl (slAl HT5.out _) _))
  replace hBa := bAfter (bAl (bAl hBa _) _) hB6
  clear HS5 hB6 HT5 m0 m1 hM hlt
  go_wp2_with fail
  refine (same_any _ _ [(0, 0), (4, 4), (7, 9)] [(0, 0), (4, 4), (7, 9)] _ (slAl HT6.out _) (by exact slLit _ _ (by first | rfl | simp) _ _ _ _ rfl rfl (by simp))).mono ?_
  rintro e w7 ⟨rfl, hB7⟩
  rw [show decide ([((0, 0) : Int × Int), (4, 4), (7, 9)] = [(0, 0), (4, 4), (7, 9)]) = true from by decide]
  replace hBa := bAfter (bAl hBa _) hB7
  clear HT6 hB7
  go_wp2_with fail
  refine (check_any (3, 2) _).mono ?_
  rintro e w8 ⟨rfl, hB8⟩
  rw [chkEx.1]
  replace hBa := bAfter hBa hB8
  clear hB8
  go_wp2_with fail
  refine (check_any (0, 1099511627777) _).mono ?_
  rintro e w9 ⟨rfl, hB9⟩
  rw [chkEx.2]
  replace hBa := bAfter hBa hB9
  clear hB9
  go_wp2_with fail
  go_ret
  exact ⟨rfl, hBa⟩
end Go.Proofs.Ytidaklcinddghaa
