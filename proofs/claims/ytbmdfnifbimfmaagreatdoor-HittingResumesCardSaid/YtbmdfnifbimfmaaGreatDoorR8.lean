/- The reference's All and SameSearch; tame. -/
import Derived.Test.YtbmdfnifbimfmaaGreatDoorR7
import Derived.Test.YtbmdfnifbimfmaaGreatDoorC1
namespace Go.Proofs.YtbmdfnifbimfmaaGreatDoor
open Go.RowKit Go.Shelf

theorem nodup_of_sorted {L : List (List Int)} (h : L.Pairwise ltS) : L.Nodup := h.imp fun {a b} hab e => by rw [e] at hab; exact ltS_irrefl _ hab

set_option maxHeartbeats 2000000 in
theorem rAll_any (v : Value) (L : List (List Int)) (most : Int) (w : World) (h : SS w v L) (ht : Tame L) : Calls Tryz.prog 18 #[v, .int .i64 most] w (AllPost w L most) := by
  have H := Lib.hid h
  have HT := Lib.hid ht
  clear h ht
  cases hv : bOf (ValidAll L) with
  | false =>
    have HV := Lib.hid hv
    clear hv
    go_enter Tryz.func18, Tryz.ntmps18
    go_wp2_with fail
    refine (rValidAll_eq _ L _ H.out HV.out).mono ?_
    rintro e w1 ⟨rfl, hB1⟩
    go_wp2_with fail
    go_ret2
    exact ⟨.slice none 0 0, [], 1, rfl, SS.nil _, hB1, .inl ⟨fun h => bOf_false_iff.1 HV.out h.1, rfl, rfl⟩⟩
  | true =>
    have HV := Lib.hid hv
    clear hv
    by_cases hm0 : most < 0
    · have q : decide (most < 0) = true := by simp; omega
      go_enter Tryz.func18, Tryz.ntmps18
      go_wp2_with fail
      refine (rValidAll_eq _ L _ H.out HV.out).mono ?_
      rintro e w1 ⟨rfl, hB1⟩
      go_wp2_with fail
      go_ret2
      exact ⟨.slice none 0 0, [], 1, rfl, SS.nil _, hB1, .inl ⟨fun h => by have := h.2.1; omega, rfl, rfl⟩⟩
    · have q : decide (most < 0) = false := by simp; omega
      by_cases hm1 : 256 < most
      · have q2 : decide (256 < most) = true := by simp; omega
        go_enter Tryz.func18, Tryz.ntmps18
        go_wp2_with fail
        refine (rValidAll_eq _ L _ H.out HV.out).mono ?_
        rintro e w1 ⟨rfl, hB1⟩
        go_wp2_with fail
        go_ret2
        exact ⟨.slice none 0 0, [], 1, rfl, SS.nil _, hB1, .inl ⟨fun h => by have := h.2.2; omega, rfl, rfl⟩⟩
      · have q2 : decide (256 < most) = false := by simp; omega
        have HOK : Hid (okMost L most) := Lib.hid ⟨bOf_iff.1 HV.out, by omega, by omega⟩
        have HALL : Hid (IsAll L (trL L)) := Lib.hid (by have := trL_all L L.length (Nat.le_refl _); rwa [List.take_length] at this)
        go_enter Tryz.func18, Tryz.ntmps18
        go_wp2_with fail
        refine (rValidAll_eq _ L _ H.out HV.out).mono ?_
        rintro e w1 ⟨rfl, hB1⟩
        go_wp2_with fail
        refine (rTransversals_any _ L _ (H.out.up hB1) HT.out).mono ?_
        rintro e w2 ⟨v2, rfl, hs2, hB2⟩
        generalize trL L = N at *
        obtain ⟨A2, c2, hf2, _, _, _⟩ := hs2.form
        subst hf2
        have HS := Lib.hid hs2
        clear hs2
        by_cases hlim : most < (N.length : Int)
        · have q3 : decide (most < (N.length : Int)) = true := by simp; omega
          go_wp2_with fail
          go_ret2
          exact ⟨.slice none 0 0, [], 2, rfl, SS.nil _, bAfter hB1 hB2, .inr (.inr ⟨HOK.out, rfl, rfl, N, nodup_of_sorted HALL.out.1, fun T hT => (HALL.out.2 T).1 hT, hlim⟩)⟩
        · have q3 : decide (most < (N.length : Int)) = false := by simp; omega
          go_wp2_with fail
          go_ret2
          exact ⟨_, N, 0, rfl, HS.out, bAfter hB1 hB2, .inr (.inl ⟨HOK.out, HALL.out, by omega, rfl⟩)⟩

/-- Two answers of All are one. -/
theorem all_same {L M M' : List (List Int)} {most c c' : Int}
    (h : (¬ okMost L most ∧ M = [] ∧ c = 1) ∨ (okMost L most ∧ IsAll L M ∧ (M.length : Int) ≤ most ∧ c = 0) ∨ (okMost L most ∧ M = [] ∧ c = 2 ∧ ∃ P : List (List Int), P.Nodup ∧ (∀ T ∈ P, MHS L T) ∧ most < P.length))
    (h' : (¬ okMost L most ∧ M' = [] ∧ c' = 1) ∨ (okMost L most ∧ IsAll L M' ∧ (M'.length : Int) ≤ most ∧ c' = 0) ∨ (okMost L most ∧ M' = [] ∧ c' = 2 ∧ ∃ P : List (List Int), P.Nodup ∧ (∀ T ∈ P, MHS L T) ∧ most < P.length)) : M = M' ∧ c = c' := by
  have key : ∀ {N P : List (List Int)}, IsAll L N → (N.length : Int) ≤ most → P.Nodup → (∀ T ∈ P, MHS L T) → most < P.length → False := fun h1 h2 h3 h4 h5 => by
    have := nodup_len h3 (fun T hT => (h1.2 T).2 (h4 T hT))
    omega
  rcases h with ⟨h1, rfl, rfl⟩ | ⟨h1, h2, h3, rfl⟩ | ⟨h1, rfl, rfl, P, p1, p2, p3⟩ <;> rcases h' with ⟨g1, rfl, rfl⟩ | ⟨g1, g2, g3, rfl⟩ | ⟨g1, rfl, rfl, Q, q1, q2, q3⟩
  · exact ⟨rfl, rfl⟩
  · exact absurd g1 h1
  · exact absurd g1 h1
  · exact absurd h1 g1
  · exact ⟨h2.unique g2, rfl⟩
  · exact (key h2 h3 q1 q2 q3).elim
  · exact absurd h1 g1
  · exact (key g2 g3 p1 p2 p3).elim
  · exact ⟨rfl, rfl⟩

theorem sr_ext {a b : Sr} : a = b ↔ a.F = b.F ∧ a.O = b.O ∧ a.sp = b.sp ∧ a.dn = b.dn := by
  constructor
  · rintro rfl; exact ⟨rfl, rfl, rfl, rfl⟩
  · obtain ⟨a1, a2, a3, a4⟩ := a; obtain ⟨b1, b2, b3, b4⟩ := b
    rintro ⟨h1, h2, h3, h4⟩
    simp at h1 h2 h3 h4
    rw [h1, h2, h3, h4]

set_option maxRecDepth 100000 in
set_option maxHeartbeats 4000000 in
theorem rSameSearch_any (v1 v2 : Value) (a b : Sr) (w : World) (h1 : SrV w v1 a) (h2 : SrV w v2 b) : Calls Tryz.prog 20 #[v1, v2] w fun e w' => e = .returned (.bool (bOf (a = b))) ∧ Below w.heap.size w w' := by
  obtain ⟨x1, x2, rfl, hx1, hx2⟩ := h1
  obtain ⟨y1, y2, rfl, hy1, hy2⟩ := h2
  obtain ⟨W2, hW2⟩ : ∃ W2, (w.alloc (.cells #[x1, x2, .int .i64 a.sp, .bool a.dn] 36)).alloc (.cells #[y1, y2, .int .i64 b.sp, .bool b.dn] 36) = W2 := ⟨_, rfl⟩
  have hB2 : Below w.heap.size w W2 := by rw [← hW2]; exact ((Below.refl _ _).alloc (Nat.le_refl _) _).alloc (by simp) _
  have hb1 : Blk W2 w.heap.size 36 #[x1, x2, .int .i64 a.sp, .bool a.dn] := by rw [← hW2]; exact (Blk.new _ _ _).alloc _
  have hb2 : Blk W2 (w.heap.size + 1) 36 #[y1, y2, .int .i64 b.sp, .bool b.dn] := by rw [← hW2]; exact Blk.newAt _ _ _ (by simp)
  obtain ⟨Ax1, cx1, rfl, _⟩ := hx1.form
  obtain ⟨Ax2, cx2, rfl, _⟩ := hx2.form
  obtain ⟨Ay1, cy1, rfl, _⟩ := hy1.form
  obtain ⟨Ay2, cy2, rfl, _⟩ := hy2.form
  have c0 := hb1.cell 0
  have c1 := hb2.cell 0
  have HB1 := Lib.hid hb1
  have HB2 := Lib.hid hb2
  have HX1 := Lib.hid (hx1.up hB2)
  have HX2 := Lib.hid (hx2.up hB2)
  have HY1 := Lib.hid (hy1.up hB2)
  have HY2 := Lib.hid (hy2.up hB2)
  have HB := Lib.hid hB2
  clear hx1 hx2 hy1 hy2 hb1 hb2 hB2
  simp at c0 c1
  go_enter Tryz.func20, Tryz.ntmps20
  go_wp2_with fail
  cases hF : bOf (a.F = b.F) with
  | false =>
    have HF := Lib.hid hF
    clear hF
    refine (rSameAll_eq _ _ a.F b.F _ HX1.out HY1.out HF.out).mono ?_
    rintro e w3 ⟨rfl, hB3⟩
    clear c0 c1
    go_wp2_with fail
    go_ret
    exact ⟨ret_bool (bOf_false fun h => bOf_false_iff.1 HF.out (sr_ext.1 h).1).symm, bAfter HB.out hB3⟩
  | true =>
    have HF := Lib.hid hF
    clear hF
    refine (rSameAll_eq _ _ a.F b.F _ HX1.out HY1.out HF.out).mono ?_
    rintro e w3 ⟨rfl, hB3⟩
    clear c0 c1
    have d0 := (HB1.out.below hB3).cell 1
    have d1 := (HB2.out.below hB3).cell 1
    simp at d0 d1
    go_wp2_with fail
    cases hO : bOf (a.O = b.O) with
    | false =>
      have HO := Lib.hid hO
      clear hO
      refine (rSameAll_eq _ _ a.O b.O _ (HX2.out.up hB3) (HY2.out.up hB3) HO.out).mono ?_
      rintro e w4 ⟨rfl, hB4⟩
      clear d0 d1
      go_wp2_with fail
      go_ret
      exact ⟨ret_bool (bOf_false fun h => bOf_false_iff.1 HO.out (sr_ext.1 h).2.1).symm, bAfter (bAfter HB.out hB3) hB4⟩
    | true =>
      have HO := Lib.hid hO
      clear hO
      refine (rSameAll_eq _ _ a.O b.O _ (HX2.out.up hB3) (HY2.out.up hB3) HO.out).mono ?_
      rintro e w4 ⟨rfl, hB4⟩
      clear d0 d1
      have f0 := ((HB1.out.below hB3).below hB4).cell 2
      have f1 := ((HB2.out.below hB3).below hB4).cell 2
      have f2 := ((HB1.out.below hB3).below hB4).cell 3
      have f3 := ((HB2.out.below hB3).below hB4).cell 3
      simp at f0 f1 f2 f3
      by_cases hsp : a.sp = b.sp
      · have q : (a.sp == b.sp) = true := by simp [hsp]
        have HSP := Lib.hid hsp
        clear hsp
        by_cases hdn : a.dn = b.dn
        · have q2 : (a.dn == b.dn) = true := by simp [hdn]
          have HDN := Lib.hid hdn
          clear hdn
          go_wp2_with fail
          go_ret
          exact ⟨ret_bool (by rw [bOf_true (sr_ext.2 ⟨bOf_iff.1 HF.out, bOf_iff.1 HO.out, HSP.out, HDN.out⟩)]), bAfter (bAfter HB.out hB3) hB4⟩
        · have q2 : (a.dn == b.dn) = false := by simp [hdn]
          go_wp2_with fail
          go_ret
          exact ⟨ret_bool (bOf_false fun h => hdn (sr_ext.1 h).2.2.2).symm, bAfter (bAfter HB.out hB3) hB4⟩
      · have q : (a.sp == b.sp) = false := by simp [hsp]
        go_wp2_with fail
        go_ret
        exact ⟨ret_bool (bOf_false fun h => hsp (sr_ext.1 h).2.2.1).symm, bAfter (bAfter HB.out hB3) hB4⟩
end Go.Proofs.YtbmdfnifbimfmaaGreatDoor
