/- HittingResumes: the walk. -/
import Derived.Test.YtbmdfnifbimfmaaGreatDoorLt
import Derived.Test.YtbmdfnifbimfmaaGreatDoorR8
import Derived.Test.YtbmdfnifbimfmaaGreatDoorPE
namespace Go.Proofs.YtbmdfnifbimfmaaGreatDoor
open Go.RowKit Go.Shelf

theorem Give_any (v tv : Value) (s : Sr) (t : List Int) (n : Bool) (w : World) (h : SrV w v s) (ht : SI w tv t) (hwt : ∀ x ∈ t, wfI x) (htl : t.length ≤ 100000) (hlF : s.F.length ≤ 100000) (hlO : s.O.length ≤ 100000) (hT : Tab w) :
    Calls Tryz.prog 19 #[v, tv, .bool n] w (GivePost w s t n) := by
  cases n with
  | true => exact Give_none v tv s t w h ht hwt htl hlF hlO hT
  | false => exact Give_some v tv s t w h ht hwt htl hlF hlO hT fun _ => insSS_any _ _ (rank_le _ _)
theorem later_check {w : World} {z : Later w} {v : Value} {s : Sr} (h : SrV w v s) (hlF : s.F.length ≤ 1000000) (hlO : s.O.length ≤ 1000000) (ht : Tab w) (hok : SrOk s) :
    Calls Tryz.prog 21 #[v] z.at fun e w' => e = .returned (.int .i64 0) ∧ ∃ s' : Later w, w' = s'.at :=
  later_of ((Check_any v s z.at (h.up z.below) hlF hlO (ht.up z.below)).mono fun e w' ⟨he, hb⟩ => ⟨by rw [he, bOf_true hok]; rfl, hb⟩)
theorem later_sameAll {w : World} {z : Later w} {v1 v2 : Value} {a b : List (List Int)} (h1 : SS w v1 a) (h2 : SS w v2 b) (e : a = b) :
    Calls Tryz.prog 13 #[v1, v2] z.at fun e w' => e = .returned (.bool true) ∧ ∃ s' : Later w, w' = s'.at :=
  later_of (rSameAll_eq v1 v2 a b z.at (h1.up z.below) (h2.up z.below) (bOf_true e))
theorem SS.pre {w : World} {A : Option Addr} {c : Nat} {L : List (List Int)} (h : SS w (.slice A L.length c) L) {n : Nat} (hn : n ≤ L.length) :
    (∀ (W : World), (Instr.slice 22 (.slice A L.length c) none (some (.int .i64 n)) none).run Tryz.prog W = .ok (.slice A n c) W) ∧ SS w (.slice A n c) (L.take n) := by
  obtain ⟨ps, rfl, h1, h2⟩ := h
  rw [List.length_map] at h1 hn ⊢
  obtain ⟨r, k⟩ := cut_pre uS zS h1 hn
  exact ⟨r, ps.take n, by rw [List.map_take], k, fun p hp => h2 p (List.mem_of_mem_take hp)⟩
theorem SS.from {w : World} {A : Option Addr} {c : Nat} {L : List (List Int)} (h : SS w (.slice A L.length c) L) {n : Nat} (hn : n ≤ L.length) :
    ∃ A1, (∀ (W : World), (Instr.slice 22 (.slice A L.length c) (some (.int .i64 n)) none none).run Tryz.prog W = .ok (.slice A1 (L.length - n) (c - n)) W) ∧ SS w (.slice A1 (L.length - n) (c - n)) (L.drop n) := by
  obtain ⟨ps, rfl, h1, h2⟩ := h
  rw [List.length_map] at h1 hn ⊢
  obtain ⟨A1, r, k⟩ := cut_from uS zS h1 hn
  exact ⟨A1, r, ps.drop n, by rw [List.map_drop], k, fun p hp => h2 p (List.mem_of_mem_drop hp)⟩

set_option maxRecDepth 100000 in
set_option maxHeartbeats 8000000 in
theorem resumes_any (v0 : Value) (s : Sr) (v1 : Value) (t : List Int) (n : Bool) (W : World) (h0 : SrV W v0 s) (hw0 : wfI s.sp) (h1 : SI W v1 t) (hw1 : ∀ x ∈ t, wfI x) (hT : Tab W) :
    Calls Tryz.prog 7 #[v0, v1, .bool n] W fun e W' => e = .returned (.bool true) ∧ Below W.heap.size W W' := by
  obtain ⟨vF, vO, rfl, hF, hO⟩ := h0
  obtain ⟨AF, cF, rfl, hcF, hmF, hAF⟩ := hF.form
  obtain ⟨AO, cO, rfl, hcO, hmO, hAO⟩ := hO.form
  obtain ⟨At, ct, rfl⟩ := SI.slice_form h1
  have htl := h1.len_le
  unfold maxLen at hmF hmO htl
  obtain ⟨W1, hW1⟩ : ∃ W1, W.alloc (.cells #[.slice AF s.F.length cF, .slice AO s.O.length cO, .int .i64 s.sp, .bool s.dn] 36) = W1 := ⟨_, rfl⟩
  have hB1 : Below W.heap.size W W1 := by rw [← hW1]; exact bAl (Below.refl _ _) _
  have hb : Blk W1 W.heap.size 36 #[.slice AF s.F.length cF, .slice AO s.O.length cO, .int .i64 s.sp, .bool s.dn] := by rw [← hW1]; exact Blk.new _ _ _
  have HF := Lib.hid (hF.up hB1)
  have HO := Lib.hid (hO.up hB1)
  have H1 := Lib.hid (S1.up h1 hB1)
  have HW1 := Lib.hid hw1
  have HT := Lib.hid (hT.up hB1)
  have HE := Lib.hid hW1
  have HB := Lib.hid hB1
  have HBK := Lib.hid hb
  have HWS := Lib.hid hw0
  clear hF hO h1 hw1 hT hW1 hB1 hb hAF hAO hw0
  go_enter Tryz.func7, Tryz.ntmps7
  go_wp2_with fail
  rw [HE.out]
  clear HE
  refine (sane_any W1 HT.out).mono ?_
  rintro e w1 ⟨rfl, hB1⟩
  have HBa := Lib.hid (bAfter HB.out hB1)
  have HF1 := Lib.hid (HF.out.up hB1)
  have HO1 := Lib.hid (HO.out.up hB1)
  have H11 := Lib.hid (S1.up H1.out hB1)
  have HT1 := Lib.hid (HT.out.up hB1)
  have HBK1 := Lib.hid (HBK.out.below hB1)
  clear hB1 HF HO H1 HT HBK HB
  have c0 : w1.cell? ⟨W.heap.size, 0, none⟩ = some (.slice AF s.F.length cF) := HBK1.out.cell 0
  have c1 : w1.cell? ⟨W.heap.size, 1, none⟩ = some (.slice AO s.O.length cO) := HBK1.out.cell 1
  have c2 : w1.cell? ⟨W.heap.size, 2, none⟩ = some (.int .i64 s.sp) := HBK1.out.cell 2
  have c3 : w1.cell? ⟨W.heap.size, 3, none⟩ = some (.bool s.dn) := HBK1.out.cell 3
  go_wp2_with fail
  cases hf : bOf (Few s.F 30) with
  | false =>
    refine (rFew_eq _ s.F 30 _ HF1.out (by decide) hf).mono ?_
    rintro e w2 ⟨rfl, rfl⟩
    clear hf
    go_wp2_with fail
    go_ret
    exact ⟨rfl, HBa.out⟩
  | true =>
    have HFF := Lib.hid (bOf_iff.1 hf)
    refine (rFew_eq _ s.F 30 _ HF1.out (by decide) hf).mono ?_
    rintro e w2 ⟨rfl, rfl⟩
    clear hf
    go_wp2_with fail
    cases hf : bOf (Few s.O 30) with
    | false =>
      refine (rFew_eq _ s.O 30 _ HO1.out (by decide) hf).mono ?_
      rintro e w2 ⟨rfl, rfl⟩
      clear hf
      go_wp2_with fail
      go_ret
      exact ⟨rfl, HBa.out⟩
    | true =>
      have HFO := Lib.hid (bOf_iff.1 hf)
      refine (rFew_eq _ s.O 30 _ HO1.out (by decide) hf).mono ?_
      rintro e w2 ⟨rfl, rfl⟩
      clear hf
      by_cases h10 : 10 < t.length
      · have q : decide ((10 : Int) < (t.length : Int)) = true := by simp; omega
        go_wp2_with fail
        go_ret
        exact ⟨rfl, HBa.out⟩
      · have q : decide ((10 : Int) < (t.length : Int)) = false := by simp; omega
        by_cases hsp : s.sp = 1073741824
        · have q2 : (s.sp == 1073741824) = true := by simp [hsp]
          clear hsp
          go_wp2_with fail
          go_ret
          exact ⟨rfl, HBa.out⟩
        · have q2 : (s.sp == 1073741824) = false := by simp [hsp]
          have HSP := Lib.hid hsp
          have hFl : s.F.length ≤ 30 := HFF.out.1
          have hOl : s.O.length ≤ 30 := HFO.out.1
          clear hsp
          go_wp2_with fail
          refine (Give_any _ _ s t n _ ⟨_, _, rfl, HF1.out, HO1.out⟩ H11.out HW1.out (by omega) (by omega) (by omega) HT1.out).mono ?_
          rintro e w3 ⟨v3, x, c, rfl, hs3, hB3, hcase⟩
          obtain ⟨vFx, vOx, rfl, hFx, hOx⟩ := hs3
          obtain ⟨AFx, cFx, rfl, hcFx, hmFx, hAFx⟩ := hFx.form
          obtain ⟨AOx, cOx, rfl, hcOx, hmOx, hAOx⟩ := hOx.form
          obtain ⟨W3, hW3⟩ : ∃ W3, w3.alloc (.cells #[.slice AFx x.F.length cFx, .slice AOx x.O.length cOx, .int .i64 x.sp, .bool x.dn] 36) = W3 := ⟨_, rfl⟩
          have hB4 : Below w3.heap.size w3 W3 := by rw [← hW3]; exact bAl (Below.refl _ _) _
          have hb3 : Blk W3 w3.heap.size 36 #[.slice AFx x.F.length cFx, .slice AOx x.O.length cOx, .int .i64 x.sp, .bool x.dn] := by rw [← hW3]; exact Blk.new _ _ _
          have hBx := bAfter hB3 hB4
          have HFx := Lib.hid (hFx.up hB4)
          have HOx := Lib.hid (hOx.up hB4)
          have HF3 := Lib.hid (HF1.out.up hBx)
          have HO3 := Lib.hid (HO1.out.up hBx)
          have H13 := Lib.hid (S1.up H11.out hBx)
          have HT3 := Lib.hid (HT1.out.up hBx)
          have HBK3 := Lib.hid (HBK1.out.below hBx)
          have HBKx := Lib.hid hb3
          have HBb := Lib.hid (bAfter HBa.out hBx)
          have HCASE := Lib.hid hcase
          have HE3 := Lib.hid hW3
          clear hFx hOx hAFx hAOx hW3 hB4 hb3 hBx hB3 hcase HF1 HO1 H11 HT1 HBK1 HBa c0 c1 c2 c3
          have c0 : W3.cell? ⟨W.heap.size, 0, none⟩ = some (.slice AF s.F.length cF) := HBK3.out.cell 0
          have c1 : W3.cell? ⟨W.heap.size, 1, none⟩ = some (.slice AO s.O.length cO) := HBK3.out.cell 1
          have c2 : W3.cell? ⟨W.heap.size, 2, none⟩ = some (.int .i64 s.sp) := HBK3.out.cell 2
          have c3 : W3.cell? ⟨W.heap.size, 3, none⟩ = some (.bool s.dn) := HBK3.out.cell 3
          have x0 : W3.cell? ⟨w3.heap.size, 0, none⟩ = some (.slice AFx x.F.length cFx) := HBKx.out.cell 0
          have x1 : W3.cell? ⟨w3.heap.size, 1, none⟩ = some (.slice AOx x.O.length cOx) := HBKx.out.cell 1
          have x2 : W3.cell? ⟨w3.heap.size, 2, none⟩ = some (.int .i64 x.sp) := HBKx.out.cell 2
          have x3 : W3.cell? ⟨w3.heap.size, 3, none⟩ = some (.bool x.dn) := HBKx.out.cell 3
          by_cases hc0 : c = 0
          · subst hc0
            have HK : Hid (Kept s x t n) := Lib.hid (by
              rcases HCASE.out with ⟨_, _, h⟩ | ⟨_, _, _, h⟩ | ⟨h1, h2, h3, _⟩
              · exact absurd h (by decide)
              · exact absurd h (by decide)
              · rw [h3]; exact give_kept h1 h2 HSP.out)
            have hne := HK.out.ne
            obtain ⟨m, hm⟩ : ∃ m, s.O.length = m + 1 := ⟨s.O.length - 1, by omega⟩
            have hxm : m ≤ x.O.length := by have := HK.out.len; omega
            have hspr := HK.out.ok.sp
            have hxbig : x.O.length ≤ 100 := by have := HK.out.big; omega
            have hxF : x.F.length ≤ 256 := HK.out.okx.lF
            have hsame : x.O.take m = s.O.drop 1 := by have := HK.out.same; rwa [show s.O.length - 1 = m by omega] at this
            obtain ⟨hrunA, hSA⟩ := SS.pre HOx.out (n := m) hxm
            obtain ⟨Ad, hrunB', hSB⟩ := SS.from HO3.out (n := 1) (by omega)
            have hrunB : ∀ (W : World), (Instr.slice 22 (.slice AO s.O.length cO) (some (.int .i64 1)) none none).run Tryz.prog W = .ok (.slice Ad (s.O.length - 1) (cO - 1)) W := hrunB'
            have HSA := Lib.hid hSA
            have HSB := Lib.hid hSB
            have HSAME := Lib.hid hsame
            have HM := Lib.hid hm
            have HXS := Lib.hid HK.out.sp
            have HSVs : Hid (SrV W3 (.agg #[.slice AF s.F.length cF, .slice AO s.O.length cO, .int .i64 s.sp, .bool s.dn]) s) := Lib.hid ⟨_, _, rfl, HF3.out, HO3.out⟩
            have HSVx : Hid (SrV W3 (.agg #[.slice AFx x.F.length cFx, .slice AOx x.O.length cOx, .int .i64 x.sp, .bool x.dn]) x) := Lib.hid ⟨_, _, rfl, HFx.out, HOx.out⟩
            have q0 : ((s.O.length : Int) == 0) = false := beq_eq_false_iff_ne.2 (by omega)
            have hs1 : IntKind.i64.wrap ((s.O.length : Int) - 1) = (m : Int) := by rw [IntWalk.i64_in _ (by omega)]; omega
            have hs2 : IntKind.i64.wrap (s.sp + 1) = x.sp := by rw [IntWalk.i64_in _ (by omega), HXS.out]
            have q4 : (x.sp != x.sp) = false := by simp
            have q5 : decide (x.O.length < m) = false := decide_eq_false (by omega)
            have q6 : decide ((x.O.length : Int) < (m : Int)) = false := decide_eq_false (by omega)
            have l0 := later_old c0
            have l1 := later_old c1
            have l2 := later_old c2
            have l3 := later_old c3
            have y0 := later_old x0
            have y1 := later_old x1
            have y2 := later_old x2
            have y3 := later_old x3
            have hbF : s.F.length ≤ 1000000 := by omega
            have hbO : s.O.length ≤ 1000000 := by omega
            have hbFx : x.F.length ≤ 1000000 := by omega
            have hbOx : x.O.length ≤ 1000000 := by omega
            have HOKs := Lib.hid HK.out.ok
            have HOKx := Lib.hid HK.out.okx
            have j1 : (0 : Int) ≤ (m : Int) := by omega
            have j2 : (m : Int) ≤ (x.O.length : Int) := by omega
            have j3 : (1 : Int) ≤ (s.O.length : Int) := by omega
            clear hne hm hspr hsame hSA hSB hrunB' c0 c1 c2 c3 x0 x1 x2 x3
            go_wp2_with fail
            rw [HE3.out]
            refine wp_region_later (by kernel_rfl) (by kernel_rfl) ?_
            repeat (first
              | go_big_quiet_step (first | with_reducible exact later_check HSVs.out hbF hbO HT3.out HOKs.out | with_reducible exact later_check HSVx.out hbFx hbOx HT3.out HOKx.out | with_reducible exact later_sameAll HSA.out HSB.out HSAME.out)
              | quiet_step (first | with_reducible exact later_check HSVs.out hbF hbO HT3.out HOKs.out | with_reducible exact later_check HSVx.out hbFx hbOx HT3.out HOKx.out | with_reducible exact later_sameAll HSA.out HSB.out HSAME.out))
            refine wpQuiet_nil ?_
            rintro _ ⟨z, rfl⟩
            have hB7 := z.below
            clear l0 l1 l2 l3 y0 y1 y2 y3
            generalize z.at = w7 at *
            have HFx7 := Lib.hid (HFx.out.up hB7)
            have HOx7 := Lib.hid (HOx.out.up hB7)
            have HF7 := Lib.hid (HF3.out.up hB7)
            have HO7 := Lib.hid (HO3.out.up hB7)
            have H17 := Lib.hid (S1.up H13.out hB7)
            have HBK7 := Lib.hid (HBK3.out.below hB7)
            have HBKx7 := Lib.hid (HBKx.out.below hB7)
            have HBc := Lib.hid (bAfter HBb.out hB7)
            have hszx : w3.heap.size < w7.heap.size := Nat.lt_of_lt_of_le HBKx.out.lt hB7.size
            have hszs : W.heap.size < w7.heap.size := Nat.lt_of_lt_of_le HBK3.out.lt hB7.size
            have HX0 : Hid (∀ W', Below w7.heap.size w7 W' → W'.cell? ⟨w3.heap.size, 0, none⟩ = some (.slice AFx x.F.length cFx) ∧ W'.cell? ⟨w3.heap.size, 1, none⟩ = some (.slice AOx x.O.length cOx) ∧ W'.cell? ⟨W.heap.size, 0, none⟩ = some (.slice AF s.F.length cF) ∧ W'.cell? ⟨W.heap.size, 1, none⟩ = some (.slice AO s.O.length cO)) :=
              Lib.hid fun W' h => ⟨(HBKx7.out.below h).cell 0, (HBKx7.out.below h).cell 1, (HBK7.out.below h).cell 0, (HBK7.out.below h).cell 1⟩
            clear hB7 HFx HOx HF3 HO3 H13 HT3 HBb HSVs HSVx HSA HSB q0 q4 q5 q6 hs2 HBK3 HBKx
            obtain ⟨x0, x1, c0, c1⟩ := HX0.out w7 (Below.refl _ _)
            go_wp2_with fail
            go_loopw [97] (fun i wr => ∃ k : Nat, k ≤ s.F.length ∧ i = .int .i64 k ∧ Below w7.heap.size w7 wr) (fun i _ => s.F.length - (intOf i).toNat)
            case atStart => exact ⟨0, Nat.zero_le _, rfl, Below.refl _ _⟩
            case round =>
              clear x0 x1 c0 c1
              obtain ⟨k, hk, rfl, hB⟩ := hrel
              by_cases hlt : k < s.F.length
              · obtain ⟨A1, d1, hf1, _, _, hA1⟩ := HF7.out.form
                obtain ⟨hAA, hcc⟩ : A1 = AF ∧ d1 = cF := by injection hf1 with e1 e2 e3; exact ⟨e1.symm, e3.symm⟩
                subst hAA hcc
                obtain ⟨b1, o1, hAe, hb1, hcell⟩ := hA1 (by omega)
                subst hAe
                obtain ⟨y, hy⟩ := get_some hlt
                obtain ⟨u, d0, hu⟩ := hcell k y hy
                obtain ⟨Au, cu, rfl⟩ := SI.slice_form hu
                have e1 := (hB.cell (p := ⟨b1, o1 + k, none⟩) hb1).trans d0
                obtain ⟨x0, x1, c0, c1⟩ := HX0.out wr hB
                have HU := Lib.hid (S1.up hu hB)
                have HIN := Lib.hid (bOf_true (HK.out.found y (List.mem_of_getElem? hy)))
                have q1 : (0 : Int) ≤ (k : Int) := by omega
                have q2 : (k : Int) < (s.F.length : Int) := by omega
                clear hf1 hA1 hcell hy hu d0
                go_wp2_with fail
                refine (rHas_eq _ _ x.F y _ (HFx7.out.up hB) HU.out HIN.out).mono ?_
                rintro e w8 ⟨rfl, hB8⟩
                go_wp2_with fail
                go_roundw
                case rel => exact ⟨k + 1, by omega, by go_num, bAfter hB hB8⟩
                case measure => simp [intOf]; omega
              · obtain rfl : k = s.F.length := by omega
                obtain ⟨x0, x1, c0, c1⟩ := HX0.out wr hB
                cases n with
                | true =>
                  have hn := HK.out.none rfl
                  have hn1 : x.O.length = m := by have := HM.out; omega
                  have p1 : ((x.O.length : Int) == (m : Int)) = true := by simp [hn1]
                  have p2 : ((x.F.length : Int) == (s.F.length : Int)) = true := by simp [hn.2]
                  have p3 : (x.O.length == m) = true := by simp [hn1]
                  have p4 : (x.F.length == s.F.length) = true := by simp [hn.2]
                  clear hn hn1
                  go_wp2_with fail
                  go_ret
                  exact ⟨rfl, bAfter HBc.out hB⟩
                | false =>
                  have HNEW := Lib.hid (HK.out.new rfl)
                  have HHAS := Lib.hid (HK.out.has rfl)
                  obtain ⟨A1, d1, hf1, _, _, hA1⟩ := HO7.out.form
                  obtain ⟨hAA, hcc⟩ : A1 = AO ∧ d1 = cO := by injection hf1 with e1 e2 e3; exact ⟨e1.symm, e3.symm⟩
                  subst hAA hcc
                  obtain ⟨b1, o1, hAe, hb1, hcell⟩ := hA1 (by omega)
                  subst hAe
                  obtain ⟨out, hout⟩ : ∃ out, s.O[0]? = some out := get_some (by omega)
                  obtain ⟨u, d0, hu⟩ := hcell 0 out hout
                  obtain ⟨Au, cu, rfl⟩ := SI.slice_form hu
                  have e0 := (hB.cell (p := ⟨b1, o1 + 0, none⟩) hb1).trans d0
                  rw [Nat.add_zero] at e0
                  have hhd : s.O.headD [] = out := by cases h : s.O with
                    | nil => rw [h] at hout; cases hout
                    | cons a b => rw [h] at hout; simpa using hout
                  have HHD := Lib.hid hhd
                  have hol : out.length ≤ 6 := HFO.out.2 out (List.mem_of_getElem? hout)
                  have HU := Lib.hid (S1.up hu hB)
                  obtain ⟨Ax, hrunX, hSX⟩ := SS.from (HOx7.out.up hB) (n := m) hxm
                  obtain ⟨dl, hdl⟩ : ∃ dl, x.O.drop m = dl := ⟨_, rfl⟩
                  have hdll : x.O.length - m = dl.length := by rw [← hdl, List.length_drop]
                  have hdlb : dl.length ≤ 100 := by omega
                  rw [hdl] at hSX
                  rw [hdll] at hrunX hSX
                  have HSX := Lib.hid hSX
                  have HDL : Hid (∀ b ∈ dl, b.length = out.length + 1 ∧ Sub out b ∧ Meet b t) := Lib.hid fun b hb => by
                    rw [← hhd]; exact HNEW.out b (by rw [show s.O.length - 1 = m by have := HM.out; omega, hdl]; exact hb)
                  have HTH : Hid (t ∈ x.F ∧ ¬ Meet t out) := Lib.hid (by rw [← hhd]; exact HHAS.out)
                  have HBd := Lib.hid (bAfter HBc.out hB)
                  have HX1 : Hid (∀ W', Below wr.heap.size wr W' → W'.cell? ⟨w3.heap.size, 0, none⟩ = some (.slice AFx x.F.length cFx)) := Lib.hid fun W' h => (HX0.out W' (bAfter hB h)).1
                  have HFxr := Lib.hid (HFx7.out.up hB)
                  have H1r := Lib.hid (S1.up H17.out hB)
                  have p1 : (0 : Int) ≤ (m : Int) := by omega
                  have p2 : (m : Int) ≤ (x.O.length : Int) := by omega
                  have p3 : (0 : Int) < (s.O.length : Int) := by omega
                  clear hf1 hA1 hcell hout hu d0 hSX hdl hdll hhd
                  go_wp2_with fail
                  clear x0 x1 c0 c1 e0
                  go_loopw [137] (fun i w' => ∃ k : Nat, k ≤ dl.length ∧ i = .int .i64 k ∧ Below wr.heap.size wr w') (fun i _ => dl.length - (intOf i).toNat)
                  case atStart => exact ⟨0, Nat.zero_le _, rfl, Below.refl _ _⟩
                  case round =>
                    obtain ⟨k, hk, rfl, hBk⟩ := hrel
                    by_cases hlt2 : k < dl.length
                    · obtain ⟨A1, d1, hf1, _, _, hA1⟩ := HSX.out.form
                      obtain ⟨b2, o2, hAe, hb2, hcell⟩ := hA1 (by omega)
                      subst hAe
                      obtain ⟨hAA, hcc⟩ : Ax = some ⟨b2, o2, none⟩ ∧ cOx - m = d1 := by injection hf1 with e1 e2 e3; exact ⟨e1, e3⟩
                      subst hAA
                      obtain ⟨y, hy⟩ := get_some hlt2
                      obtain ⟨u, d0, hu⟩ := hcell k y hy
                      obtain ⟨Ay, cy, rfl⟩ := SI.slice_form hu
                      have e1 := (hBk.cell (p := ⟨b2, o2 + k, none⟩) hb2).trans d0
                      have HY := Lib.hid (S1.up hu hBk)
                      have HUk := Lib.hid (S1.up HU.out hBk)
                      have HTk := Lib.hid (S1.up H1r.out hBk)
                      have hd := HDL.out y (List.mem_of_getElem? hy)
                      have HSUB := Lib.hid (bOf_true hd.2.1)
                      have HMT := Lib.hid (bOf_true hd.2.2)
                      have hyl := hd.1
                      have r1 : (0 : Int) ≤ (k : Int) := by omega
                      have r2 : (k : Int) < (dl.length : Int) := by omega
                      have r3 : ((y.length : Int) != (out.length : Int) + 1) = false := by simp; omega
                      clear hf1 hA1 hcell hy hu d0 hd hyl hcc
                      go_wp2_with fail
                      refine (rWithin_eq _ _ out y _ HUk.out HY.out HSUB.out).mono ?_
                      rintro e w8 ⟨rfl, rfl⟩
                      go_wp2_with fail
                      refine (rHit_eq _ _ y t _ HY.out HTk.out HMT.out).mono ?_
                      rintro e w9 ⟨rfl, rfl⟩
                      go_wp2_with fail
                      go_roundw
                      case rel => exact ⟨k + 1, by omega, by go_num, hBk⟩
                      case measure => simp [intOf]; omega
                    · obtain rfl : k = dl.length := by omega
                      have x0 := HX1.out _ hBk
                      have HFk := Lib.hid (HFxr.out.up hBk)
                      have HTk := Lib.hid (S1.up H1r.out hBk)
                      have HUk := Lib.hid (S1.up HU.out hBk)
                      have HI1 := Lib.hid (bOf_true HTH.out.1)
                      have HI2 := Lib.hid (bOf_false HTH.out.2)
                      have HBe := Lib.hid (bAfter HBd.out hBk)
                      go_wp2_with fail
                      refine (rHas_eq _ _ x.F t _ HFk.out HTk.out HI1.out).mono ?_
                      rintro e w8 ⟨rfl, hB8⟩
                      have HTl := Lib.hid (S1.up HTk.out hB8)
                      have HUl := Lib.hid (S1.up HUk.out hB8)
                      have HBf := Lib.hid (bAfter HBe.out hB8)
                      clear hB8 x0
                      go_wp2_with fail
                      refine (rHit_eq _ _ t out _ HTl.out HUl.out HI2.out).mono ?_
                      rintro e w9 ⟨rfl, rfl⟩
                      go_wp2_with fail
                      go_ret
                      exact ⟨rfl, HBf.out⟩
          · have q3 : (c != 0) = true := by simp [hc0]
            have HNO : Hid (x = noSr) := Lib.hid (by
              rcases HCASE.out with ⟨_, h, _⟩ | ⟨_, _, h, _⟩ | ⟨_, _, _, h⟩
              · exact h
              · exact h
              · exact absurd h hc0)
            clear hc0
            go_wp2_with fail
            rw [HE3.out]
            refine (rSameSearch_any _ _ x noSr _ ⟨_, _, rfl, HFx.out, HOx.out⟩ ⟨_, _, rfl, SS.nil _, SS.nil _⟩).mono ?_
            rintro e w4 ⟨rfl, hB4⟩
            have HBc := Lib.hid (bAfter HBb.out hB4)
            clear hB4
            go_wp2_with fail
            go_ret
            exact ⟨ret_bool (bOf_true HNO.out), HBc.out⟩
end Go.Proofs.YtbmdfnifbimfmaaGreatDoor
