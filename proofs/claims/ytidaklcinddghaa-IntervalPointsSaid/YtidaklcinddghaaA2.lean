import Derived.Test.YtidaklcinddghaaA1
namespace Go.Proofs.Ytidaklcinddghaa
open Go.RowKit
attribute [local go_sem ↓] Go.wp_at_zero Go.wp_at_succ

theorem slTwo {α : Type} (w : World) (n : Nat) (hn : n = w.heap.size) (t : TypeId) (enc : α → List Value) (x y : α) (a b c d : Value) (hx : enc x = [a, b]) (hy : enc y = [c, d]) :
    Sl (w.alloc (.cells #[a, b, c, d] t)) (w.alloc (.cells #[a, b, c, d] t)).heap.size enc 2 (.slice (some ⟨n, 0, none⟩) 2 2) [x, y] := by
  subst hn
  refine ⟨_, 2, rfl, Nat.le_refl _, by simp [maxLen], fun _ => ⟨w.heap.size, 0, rfl, by simp, ?_⟩⟩
  intro i z hi j u hj
  have hc : ∀ o, (w.alloc (.cells #[a, b, c, d] t)).cell? ⟨w.heap.size, o, none⟩ = #[a, b, c, d][o]? := cell_alloc_new w _ t
  rw [hc]
  match i, hi with
  | 0, hi =>
    simp at hi; subst hi; rw [hx] at hj
    match j, hj with
    | 0, hj => simpa using hj
    | 1, hj => simpa using hj
    | j + 2, hj => simp at hj
  | 1, hi =>
    simp at hi; subst hi; rw [hy] at hj
    match j, hj with
    | 0, hj => simpa using hj
    | 1, hj => simpa using hj
    | j + 2, hj => simp at hj
  | i + 2, hi => simp at hi

theorem chkAll_two (x y : Int × Int) : chkAll [x, y] = if chk x = 0 then chk y else chk x := by
  simp [chkAll, chkStep]

set_option maxHeartbeats 1000000 in
theorem within_any (x y : Int × Int) (w : World) :
    Calls Try.prog 23 #[ivV x, ivV y] w fun r w' => r = .returned (.bool (withinB x y)) ∧ Below w.heap.size w w' := by
  obtain ⟨a, b⟩ := x
  obtain ⟨c, d⟩ := y
  have HW : Hid (withinB (a, b) (c, d) = decide (chkAll [(a, b), (c, d)] = 0 ∧ c ≤ a ∧ b ≤ d)) := Lib.hid rfl
  generalize withinB (a, b) (c, d) = z at *
  generalize hk : chkAll [(a, b), (c, d)] = k at *
  have HK := Lib.hid hk
  clear hk
  by_cases hk0 : k = 0
  · subst hk0
    go_enter Try.func23, Try.ntmps23
    go_wp2_with (go_at_call 30; refine (checkAll_any _ [(a, b), (c, d)] _ (by exact slTwo _ _ (by simp) _ _ _ _ _ _ _ _ rfl rfl)).mono ?_; rintro e w' ⟨rfl, hb1⟩; obtain ⟨hc, hf⟩ := bcell hb1; rw [HK.out])
    all_goals
      go_ret
      exact ⟨ret_bool (by rw [HW.out]; simp; omega), bAfter (bAl (bAl (bAl (Below.refl _ _) _) _) _) hb1⟩
  · have hk1 : (k == 0) = false := by simp [hk0]
    go_enter Try.func23, Try.ntmps23
    go_wp2_with (go_at_call 30; refine (checkAll_any _ [(a, b), (c, d)] _ (by exact slTwo _ _ (by simp) _ _ _ _ _ _ _ _ rfl rfl)).mono ?_; rintro e w' ⟨rfl, hb1⟩; obtain ⟨hc, hf⟩ := bcell hb1; rw [HK.out])
    go_ret
    exact ⟨ret_bool (by rw [HW.out]; simp [hk0]), bAfter (bAl (bAl (bAl (Below.refl _ _) _) _) _) hb1⟩

abbrev errV (x : Int × Int) (e : Int) : Value := .tuple #[ivV x, .int .i64 e]
def hullV (x y : Int × Int) : (Int × Int) × Int := if chkAll [x, y] = 0 then ((min x.1 y.1, max x.2 y.2), 0) else ((0, 0), chkAll [x, y])
def meetV (x y : Int × Int) : (Int × Int) × Int :=
  if chkAll [x, y] = 0 then (if min x.2 y.2 < max x.1 y.1 then ((0, 0), 80) else ((max x.1 y.1, min x.2 y.2), 0)) else ((0, 0), chkAll [x, y])

set_option maxHeartbeats 2000000 in
theorem hull_any (x y : Int × Int) (w : World) :
    Calls Try.prog 26 #[ivV x, ivV y] w fun r w' => r = .returned (errV (hullV x y).1 (hullV x y).2) ∧ Below w.heap.size w w' := by
  obtain ⟨a, b⟩ := x
  obtain ⟨c, d⟩ := y
  have HW : Hid (hullV (a, b) (c, d) = if chkAll [(a, b), (c, d)] = 0 then ((min a c, max b d), 0) else ((0, 0), chkAll [(a, b), (c, d)])) := Lib.hid rfl
  generalize hullV (a, b) (c, d) = z at *
  generalize hk : chkAll [(a, b), (c, d)] = k at *
  have HK := Lib.hid hk
  clear hk
  by_cases hk0 : k = 0
  · have hz : z = ((min a c, max b d), 0) := by rw [HW.out, if_pos hk0]
    subst hz
    have hk1 : (k != 0) = false := by simp [hk0]
    go_enter Try.func26, Try.ntmps26
    go_upto_region 4 with (go_at_call 30; refine (checkAll_any _ [(a, b), (c, d)] _ (by exact slTwo _ _ (by simp) _ _ _ _ _ _ _ _ rfl rfl)).mono ?_; rintro e w' ⟨rfl, hb1⟩; obtain ⟨hc, hf⟩ := bcell hb1; rw [HK.out])
    have B0 : Blk w' w.heap.size 23 #[.int .i64 a, .int .i64 b] := ((((Blk.new w _ _).alloc _).alloc _).alloc _).below hb1
    have B1 : Blk w' (w.heap.size + 1) 23 #[.int .i64 c, .int .i64 d] := (((Blk.newAt _ _ _ (by simp)).alloc _).alloc _).below hb1
    have B2 : Blk w' (w.heap.size + 1 + 1) 23 #[.int .i64 0, .int .i64 0] := ((Blk.newAt _ _ _ (by simp)).alloc _).below hb1
    have hB := bAfter (bAl (bAl (bAl (bAl (Below.refl _ w) _) _) _) _) hb1
    clear hc hf hb1
    have hn : w.heap.size ≤ w.heap.size := Nat.le_refl _
    generalize hN : w.heap.size = n at *
    have HN := Lib.hid hN
    clear hN
    go_region_held3 (fun W => W.cell? ⟨n, 0, none⟩ = some (.int .i64 a) ∧ W.cell? ⟨n, 1, none⟩ = some (.int .i64 b) ∧ W.cell? ⟨n + 1, 0, none⟩ = some (.int .i64 c) ∧ W.cell? ⟨n + 1, 1, none⟩ = some (.int .i64 d))
      (first | exact ⟨B0.cell 0, B0.cell 1, B1.cell 0, B1.cell 1⟩ | exact ⟨((B0.far (by simp; omega) _).far (by simp; omega) _).cell 0, ((B0.far (by simp; omega) _).far (by simp; omega) _).cell 1, ((B1.far (by simp) _).far (by simp) _).cell 0, ((B1.far (by simp) _).far (by simp) _).cell 1⟩)
      (first
       | (go_at_call 37; refine (greater_any _).mono ?_; rintro e w2 ⟨rfl, hb2⟩; replace B0 := bk hb2 B0; replace B1 := bk hb2 B1; replace B2 := bk hb2 B2; replace hB := bAft hb2 hB (by rw [HN.out]; exact hn))
       | (go_at_call 39; refine (lesser_any _).mono ?_; rintro e w2 ⟨rfl, hb2⟩; replace B0 := bk hb2 B0; replace B1 := bk hb2 B1; replace B2 := bk hb2 B2; replace hB := bAft hb2 hB.drew (by rw [HN.out]; exact hn))
       | (go_at_call_of 38 (Value.agg #[.func (.func 48) #[] #[]]); refine (of_greater _ _ _).mono ?_; rintro e w2 ⟨rfl, hb2⟩; replace B0 := bk hb2 B0; replace B1 := bk hb2 B1; replace B2 := bk hb2 B2; replace hB := bAft hb2 hB (by rw [HN.out]; exact hn);
          have c0 : w2.cell? ⟨n + 1 + 1, 0, none⟩ = some (.int .i64 0) := B2.cell 0; have c1 : w2.cell? ⟨n + 1 + 1, 1, none⟩ = some (.int .i64 0) := B2.cell 1; have f0 := B2.frozen 0; have f1 := B2.frozen 1)
       | (go_at_call_of 38 (Value.agg #[.func (.func 49) #[] #[]]); refine (of_lesser _ _ _).mono ?_; rintro e w2 ⟨rfl, hb2⟩; replace B0 := bk hb2 B0; replace B1 := bk hb2 B1; replace B2 := bk hb2 B2; replace hB := bAft hb2 hB (by rw [HN.out]; exact hn)))
    go_wp2
    exact bodyPost_ret (v := errV (min a c, max b d) 0) (by simp [results, Try.results26, go_sem, c0, c1]) rfl ⟨rfl, by rw [HN.out]; exact (hB.setCell (by simp; omega) _).setCell (by simp; omega) _⟩
  · have hk1 : (k != 0) = true := by simp [hk0]
    have hz : z = ((0, 0), k) := by rw [HW.out, if_neg hk0]
    subst hz
    go_enter Try.func26, Try.ntmps26
    go_wp2_with (go_at_call 30; refine (checkAll_any _ [(a, b), (c, d)] _ (by exact slTwo _ _ (by simp) _ _ _ _ _ _ _ _ rfl rfl)).mono ?_; rintro e w' ⟨rfl, hb1⟩; obtain ⟨hc, hf⟩ := bcell hb1; rw [HK.out])
    have hB := bAfter (bAl (bAl (bAl (bAl (Below.refl _ w) _) _) _) _) hb1
    have B2 : Blk w' (w.heap.size + 1 + 1) 23 #[.int .i64 0, .int .i64 0] := ((Blk.newAt _ _ _ (by simp)).alloc _).below hb1
    have c0 : w'.cell? ⟨w.heap.size + 1 + 1, 0, none⟩ = some (.int .i64 0) := B2.cell 0
    have c1 : w'.cell? ⟨w.heap.size + 1 + 1, 1, none⟩ = some (.int .i64 0) := B2.cell 1
    exact bodyPost_ret (v := errV (0, 0) k) (by simp [results, Try.results26, go_sem, c0, c1]) rfl ⟨rfl, (hB.setCell (by simp; omega) _).setCell (by simp; omega) _⟩
set_option maxHeartbeats 2000000 in
theorem meet_any (x y : Int × Int) (w : World) :
    Calls Try.prog 24 #[ivV x, ivV y] w fun r w' => r = .returned (errV (meetV x y).1 (meetV x y).2) ∧ Below w.heap.size w w' := by
  obtain ⟨a, b⟩ := x
  obtain ⟨c, d⟩ := y
  have HW : Hid (meetV (a, b) (c, d) = if chkAll [(a, b), (c, d)] = 0 then (if min b d < max a c then ((0, 0), 80) else ((max a c, min b d), 0)) else ((0, 0), chkAll [(a, b), (c, d)])) := Lib.hid rfl
  generalize meetV (a, b) (c, d) = z at *
  generalize hk : chkAll [(a, b), (c, d)] = k at *
  have HK := Lib.hid hk
  clear hk
  by_cases hk0 : k = 0
  · by_cases hlt : min b d < max a c
    · have hz : z = ((0, 0), 80) := by rw [HW.out, if_pos hk0, if_pos hlt]
      subst hz
      have hk1 : (k != 0) = false := by simp [hk0]
      go_enter Try.func24, Try.ntmps24
      go_upto_region 4 with (go_at_call 30; refine (checkAll_any _ [(a, b), (c, d)] _ (by exact slTwo _ _ (by simp) _ _ _ _ _ _ _ _ rfl rfl)).mono ?_; rintro e w' ⟨rfl, hb1⟩; obtain ⟨hc, hf⟩ := bcell hb1; rw [HK.out])
      have B0 : Blk w' w.heap.size 23 #[.int .i64 a, .int .i64 b] := ((((Blk.new w _ _).alloc _).alloc _).alloc _).below hb1
      have B1 : Blk w' (w.heap.size + 1) 23 #[.int .i64 c, .int .i64 d] := (((Blk.newAt _ _ _ (by simp)).alloc _).alloc _).below hb1
      have B2 : Blk w' (w.heap.size + 1 + 1) 23 #[.int .i64 0, .int .i64 0] := ((Blk.newAt _ _ _ (by simp)).alloc _).below hb1
      have hB := bAfter (bAl (bAl (bAl (bAl (Below.refl _ w) _) _) _) _) hb1
      clear hc hf hb1
      have hn : w.heap.size ≤ w.heap.size := Nat.le_refl _
      generalize hN : w.heap.size = n at *
      have HN := Lib.hid hN
      clear hN
      go_region_held3 (fun W => W.cell? ⟨n, 0, none⟩ = some (.int .i64 a) ∧ W.cell? ⟨n, 1, none⟩ = some (.int .i64 b) ∧ W.cell? ⟨n + 1, 0, none⟩ = some (.int .i64 c) ∧ W.cell? ⟨n + 1, 1, none⟩ = some (.int .i64 d))
        (first | exact ⟨B0.cell 0, B0.cell 1, B1.cell 0, B1.cell 1⟩ | exact ⟨((B0.far (by simp; omega) _).far (by simp; omega) _).cell 0, ((B0.far (by simp; omega) _).far (by simp; omega) _).cell 1, ((B1.far (by simp) _).far (by simp) _).cell 0, ((B1.far (by simp) _).far (by simp) _).cell 1⟩)
        (first
         | (go_at_call 37; refine (greater_any _).mono ?_; rintro e w2 ⟨rfl, hb2⟩; replace B0 := bk hb2 B0; replace B1 := bk hb2 B1; replace B2 := bk hb2 B2; replace hB := bAft hb2 hB.drew (by rw [HN.out]; exact hn))
         | (go_at_call 39; refine (lesser_any _).mono ?_; rintro e w2 ⟨rfl, hb2⟩; replace B0 := bk hb2 B0; replace B1 := bk hb2 B1; replace B2 := bk hb2 B2; replace hB := bAft hb2 hB (by rw [HN.out]; exact hn))
         | (go_at_call_of 38 (Value.agg #[.func (.func 48) #[] #[]]); refine (of_greater _ _ _).mono ?_; rintro e w2 ⟨rfl, hb2⟩; replace B0 := bk hb2 B0; replace B1 := bk hb2 B1; replace B2 := bk hb2 B2; replace hB := bAft hb2 hB (by rw [HN.out]; exact hn))
         | (go_at_call_of 38 (Value.agg #[.func (.func 49) #[] #[]]); refine (of_lesser _ _ _).mono ?_; rintro e w2 ⟨rfl, hb2⟩; replace B0 := bk hb2 B0; replace B1 := bk hb2 B1; replace B2 := bk hb2 B2; replace hB := bAft hb2 hB (by rw [HN.out]; exact hn);
            have c0 : w2.cell? ⟨n + 1 + 1, 0, none⟩ = some (.int .i64 0) := B2.cell 0; have c1 : w2.cell? ⟨n + 1 + 1, 1, none⟩ = some (.int .i64 0) := B2.cell 1; have f0 := B2.frozen 0; have f1 := B2.frozen 1))
      go_wp2
      have B3 := (((B2.set_ 0 (.int .i64 (max a c))).set_ 1 (.int .i64 (min b d))).set_ 0 (.int .i64 0)).set_ 1 (.int .i64 0)
      have d0 := B3.cell 0
      have d1 := B3.cell 1
      simp only [List.setIfInBounds_toArray, List.set_cons_zero, List.set_cons_succ, List.getElem?_toArray, List.getElem?_cons_zero, List.getElem?_cons_succ] at d0 d1
      exact bodyPost_ret (v := errV (0, 0) 80) (by simp [results, Try.results24, go_sem, d0, d1]) rfl ⟨rfl, by rw [HN.out]; exact ((((hB.setCell (by simp; omega) _).setCell (by simp; omega) _).setCell (by simp; omega) _).setCell (by simp; omega) _)⟩
    · have hz : z = ((max a c, min b d), 0) := by rw [HW.out, if_pos hk0, if_neg hlt]
      subst hz
      have hk1 : (k != 0) = false := by simp [hk0]
      go_enter Try.func24, Try.ntmps24
      go_upto_region 4 with (go_at_call 30; refine (checkAll_any _ [(a, b), (c, d)] _ (by exact slTwo _ _ (by simp) _ _ _ _ _ _ _ _ rfl rfl)).mono ?_; rintro e w' ⟨rfl, hb1⟩; obtain ⟨hc, hf⟩ := bcell hb1; rw [HK.out])
      have B0 : Blk w' w.heap.size 23 #[.int .i64 a, .int .i64 b] := ((((Blk.new w _ _).alloc _).alloc _).alloc _).below hb1
      have B1 : Blk w' (w.heap.size + 1) 23 #[.int .i64 c, .int .i64 d] := (((Blk.newAt _ _ _ (by simp)).alloc _).alloc _).below hb1
      have B2 : Blk w' (w.heap.size + 1 + 1) 23 #[.int .i64 0, .int .i64 0] := ((Blk.newAt _ _ _ (by simp)).alloc _).below hb1
      have hB := bAfter (bAl (bAl (bAl (bAl (Below.refl _ w) _) _) _) _) hb1
      clear hc hf hb1
      have hn : w.heap.size ≤ w.heap.size := Nat.le_refl _
      generalize hN : w.heap.size = n at *
      have HN := Lib.hid hN
      clear hN
      go_region_held3 (fun W => W.cell? ⟨n, 0, none⟩ = some (.int .i64 a) ∧ W.cell? ⟨n, 1, none⟩ = some (.int .i64 b) ∧ W.cell? ⟨n + 1, 0, none⟩ = some (.int .i64 c) ∧ W.cell? ⟨n + 1, 1, none⟩ = some (.int .i64 d))
        (first | exact ⟨B0.cell 0, B0.cell 1, B1.cell 0, B1.cell 1⟩ | exact ⟨((B0.far (by simp; omega) _).far (by simp; omega) _).cell 0, ((B0.far (by simp; omega) _).far (by simp; omega) _).cell 1, ((B1.far (by simp) _).far (by simp) _).cell 0, ((B1.far (by simp) _).far (by simp) _).cell 1⟩)
        (first
         | (go_at_call 37; refine (greater_any _).mono ?_; rintro e w2 ⟨rfl, hb2⟩; replace B0 := bk hb2 B0; replace B1 := bk hb2 B1; replace B2 := bk hb2 B2; replace hB := bAft hb2 hB.drew (by rw [HN.out]; exact hn))
         | (go_at_call 39; refine (lesser_any _).mono ?_; rintro e w2 ⟨rfl, hb2⟩; replace B0 := bk hb2 B0; replace B1 := bk hb2 B1; replace B2 := bk hb2 B2; replace hB := bAft hb2 hB (by rw [HN.out]; exact hn))
         | (go_at_call_of 38 (Value.agg #[.func (.func 48) #[] #[]]); refine (of_greater _ _ _).mono ?_; rintro e w2 ⟨rfl, hb2⟩; replace B0 := bk hb2 B0; replace B1 := bk hb2 B1; replace B2 := bk hb2 B2; replace hB := bAft hb2 hB (by rw [HN.out]; exact hn))
         | (go_at_call_of 38 (Value.agg #[.func (.func 49) #[] #[]]); refine (of_lesser _ _ _).mono ?_; rintro e w2 ⟨rfl, hb2⟩; replace B0 := bk hb2 B0; replace B1 := bk hb2 B1; replace B2 := bk hb2 B2; replace hB := bAft hb2 hB (by rw [HN.out]; exact hn);
            have c0 : w2.cell? ⟨n + 1 + 1, 0, none⟩ = some (.int .i64 0) := B2.cell 0; have c1 : w2.cell? ⟨n + 1 + 1, 1, none⟩ = some (.int .i64 0) := B2.cell 1; have f0 := B2.frozen 0; have f1 := B2.frozen 1))
      go_wp2
      have B3 := (((B2.set_ 0 (.int .i64 (max a c))).set_ 1 (.int .i64 (min b d))).set_ 0 (.int .i64 (max a c))).set_ 1 (.int .i64 (min b d))
      have d0 := B3.cell 0
      have d1 := B3.cell 1
      simp only [List.setIfInBounds_toArray, List.set_cons_zero, List.set_cons_succ, List.getElem?_toArray, List.getElem?_cons_zero, List.getElem?_cons_succ] at d0 d1
      exact bodyPost_ret (v := errV (max a c, min b d) 0) (by simp [results, Try.results24, go_sem, d0, d1]) rfl ⟨rfl, by rw [HN.out]; exact ((((hB.setCell (by simp; omega) _).setCell (by simp; omega) _).setCell (by simp; omega) _).setCell (by simp; omega) _)⟩
  · have hk1 : (k != 0) = true := by simp [hk0]
    have hz : z = ((0, 0), k) := by rw [HW.out, if_neg hk0]
    subst hz
    go_enter Try.func24, Try.ntmps24
    go_wp2_with (go_at_call 30; refine (checkAll_any _ [(a, b), (c, d)] _ (by exact slTwo _ _ (by simp) _ _ _ _ _ _ _ _ rfl rfl)).mono ?_; rintro e w' ⟨rfl, hb1⟩; obtain ⟨hc, hf⟩ := bcell hb1; rw [HK.out])
    have hB := bAfter (bAl (bAl (bAl (bAl (Below.refl _ w) _) _) _) _) hb1
    have B2 : Blk w' (w.heap.size + 1 + 1) 23 #[.int .i64 0, .int .i64 0] := ((Blk.newAt _ _ _ (by simp)).alloc _).below hb1
    have c0 : w'.cell? ⟨w.heap.size + 1 + 1, 0, none⟩ = some (.int .i64 0) := B2.cell 0
    have c1 : w'.cell? ⟨w.heap.size + 1 + 1, 1, none⟩ = some (.int .i64 0) := B2.cell 1
    exact bodyPost_ret (v := errV (0, 0) k) (by simp [results, Try.results24, go_sem, c0, c1]) rfl ⟨rfl, (hB.setCell (by simp; omega) _).setCell (by simp; omega) _⟩
end Go.Proofs.Ytidaklcinddghaa
