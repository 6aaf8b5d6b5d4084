/- Walks: Check, the walk. -/
import Derived.Test.YtbmdfnifbimfmaaGreatDoorC1
import Derived.Test.YtbmdfnifbimfmaaGreatDoorR3
import Derived.Test.YtbmdfnifbimfmaaGreatDoorF5
namespace Go.Proofs.YtbmdfnifbimfmaaGreatDoor
open Go.RowKit

theorem run_cut (A : Option Addr) (n c k : Nat) (hk : k ≤ n) (hn : n ≤ c) (W : World) : (Instr.slice 22 (.slice A n c) none (some (.int .i64 k)) none).run Tryz.prog W = .ok (.slice A k c) W := by
  rw [run_slice_h W 22 _ _ _ uS .i64 k (by omega) (by omega), zS]
  have : A.map (·.add 0) = A := by cases A <;> simp [Addr.add]
  simp [Result.andThen, sliced, this]

set_option maxRecDepth 100000 in
set_option maxHeartbeats 8000000 in
theorem Check_any (v : Value) (s : Sr) (w : World) (h : SrV w v s) (hlF : s.F.length ≤ 1000000) (hlO : s.O.length ≤ 1000000) (ht : Tab w) : Calls Tryz.prog 21 #[v] w (CheckPost w s) := by
  obtain ⟨vF, vO, rfl, hF, hO⟩ := h
  obtain ⟨AF, cF, rfl, hcF, hmF, hAF⟩ := hF.form
  obtain ⟨AO, cO, rfl, hcO, hmO, hAO⟩ := hO.form
  obtain ⟨W1, hW1⟩ : ∃ W1, w.alloc (.cells #[.slice AF s.F.length cF, .slice AO s.O.length cO, .int .i64 s.sp, .bool s.dn] 36) = W1 := ⟨_, rfl⟩
  have hB1 : Below w.heap.size w W1 := by rw [← hW1]; exact (Below.refl _ _).alloc (Nat.le_refl _) _
  have hb : Blk W1 w.heap.size 36 #[.slice AF s.F.length cF, .slice AO s.O.length cO, .int .i64 s.sp, .bool s.dn] := by rw [← hW1]; exact Blk.new _ _ _
  have c0 : W1.cell? ⟨w.heap.size, 0, none⟩ = some (.slice AF s.F.length cF) := hb.cell 0
  have c1 : W1.cell? ⟨w.heap.size, 1, none⟩ = some (.slice AO s.O.length cO) := hb.cell 1
  have c2 : W1.cell? ⟨w.heap.size, 2, none⟩ = some (.int .i64 s.sp) := hb.cell 2
  have c3 : W1.cell? ⟨w.heap.size, 3, none⟩ = some (.bool s.dn) := hb.cell 3
  have hwl : w.heap.size < W1.heap.size := hb.lt
  have HF := Lib.hid (hF.up hB1)
  have HO := Lib.hid (hO.up hB1)
  have HAF : Hid (0 < s.F.length → ∃ b off, AF = some ⟨b, off, none⟩ ∧ b < W1.heap.size ∧ ∀ i x, s.F[i]? = some x → ∃ u, W1.cell? ⟨b, off + i, none⟩ = some u ∧ SI W1 u x) := Lib.hid (fun h0 => by
    obtain ⟨b, off, e, hb, hc⟩ := hAF h0
    exact ⟨b, off, e, Nat.lt_of_lt_of_le hb hB1.size, fun i x hi => by obtain ⟨u, d, hu⟩ := hc i x hi; exact ⟨u, (hB1.cell (p := ⟨b, off + i, none⟩) hb).trans d, hu.up hB1⟩⟩)
  have HAO : Hid (0 < s.O.length → ∃ b off, AO = some ⟨b, off, none⟩ ∧ b < W1.heap.size ∧ ∀ i x, s.O[i]? = some x → ∃ u, W1.cell? ⟨b, off + i, none⟩ = some u ∧ SI W1 u x) := Lib.hid (fun h0 => by
    obtain ⟨b, off, e, hb, hc⟩ := hAO h0
    exact ⟨b, off, e, Nat.lt_of_lt_of_le hb hB1.size, fun i x hi => by obtain ⟨u, d, hu⟩ := hc i x hi; exact ⟨u, (hB1.cell (p := ⟨b, off + i, none⟩) hb).trans d, hu.up hB1⟩⟩)
  have HB := Lib.hid hB1
  have HT := Lib.hid (ht.up hB1)
  have HCUT : Hid (∀ k, k ≤ s.F.length → ∀ W, (Instr.slice 22 (.slice AF s.F.length cF) none (some (.int .i64 (k : Int))) none).run Tryz.prog W = .ok (.slice AF k cF) W) := Lib.hid fun k hk W => run_cut AF _ _ k hk hcF W
  have hmm := @run_makeMap Tryz.prog
  clear hF hO hAF hAO hB1 hb ht hmF hmO hcO
  go_enter Tryz.func21, Tryz.ntmps21
  go_wp2_with fail
  cases hvF : bOf (ValidAll s.F) with
  | false =>
    have HN : Hid (¬ SrOk s) := Lib.hid fun h => bOf_false_iff.1 hvF h.vF
    refine (valid_eq _ s.F W1 HF.out hvF).mono ?_
    rintro e w2 ⟨rfl, rfl⟩
    clear hvF
    go_wp2_with fail
    go_ret
    exact CheckPost.no HN.out HB.out
  | true =>
    refine (valid_eq _ s.F W1 HF.out hvF).mono ?_
    rintro e w2 ⟨rfl, rfl⟩
    have HVF := Lib.hid (bOf_iff.1 hvF)
    clear hvF
    go_wp2_with fail
    cases hvO : bOf (ValidAll s.O) with
    | false =>
      have HN : Hid (¬ SrOk s) := Lib.hid fun h => bOf_false_iff.1 hvO h.vO
      refine (valid_eq _ s.O W1 HO.out hvO).mono ?_
      rintro e w2 ⟨rfl, rfl⟩
      clear hvO
      go_wp2_with fail
      go_ret
      exact CheckPost.no HN.out HB.out
    | true =>
      refine (valid_eq _ s.O W1 HO.out hvO).mono ?_
      rintro e w2 ⟨rfl, rfl⟩
      have HVO := Lib.hid (bOf_iff.1 hvO)
      clear hvO
      by_cases h256 : 256 < s.F.length
      · have HN : Hid (¬ SrOk s) := Lib.hid fun h => by have := h.lF; omega
        have q : decide ((256 : Int) < (s.F.length : Int)) = true := by simp; omega
        go_wp2_with fail
        go_ret
        exact CheckPost.no HN.out HB.out
      · have q : decide ((256 : Int) < (s.F.length : Int)) = false := by simp; omega
        go_wp2_with fail
        clear q
        go_loop [30] (fun i => ∃ k : Nat, k ≤ s.F.length ∧ i = .int .i64 k ∧ Hid (FOK (s.F.take k))) (fun i => s.F.length - (intOf i).toNat)
        case atStart => exact ⟨0, Nat.zero_le _, rfl, Lib.hid List.Pairwise.nil⟩
        case round =>
          obtain ⟨k, hk, rfl, HR⟩ := hrel
          by_cases hlt : k < s.F.length
          · obtain ⟨b1, o1, hAe, hb1, hcell⟩ := HAF.out (by omega)
            obtain ⟨t, ht⟩ := get_some hlt
            obtain ⟨u, d0, hu⟩ := hcell k t ht
            obtain ⟨Au, cu, rfl⟩ := SI.slice_form hu
            have HU := Lib.hid hu
            have HTK := Lib.hid ht
            have HTV : Hid (Valid t) := Lib.hid (HVF.out t (List.mem_of_getElem? ht))
            have HCELL := Lib.hid hcell
            have hcut := HCUT.out k hk
            subst hAe
            clear hu ht hcell
            have q1 : (0 : Int) ≤ (k : Int) := by omega
            have q2 : (k : Int) < (s.F.length : Int) := by omega
            have inner : ∀ (hpre : Hid (∀ y, 0 < k → s.F[k - 1]? = some y → ltS y t)), True := fun _ => trivial
            clear inner
            by_cases hbad : ∃ y, 0 < k ∧ s.F[k - 1]? = some y ∧ ¬ ltS y t
            · obtain ⟨y, hk0, hy, hny⟩ := hbad
              obtain ⟨uy, dy, hyu⟩ := HCELL.out (k - 1) y hy
              obtain ⟨Ay, cy, rfl⟩ := SI.slice_form hyu
              have HYU := Lib.hid hyu
              have HN : Hid (¬ SrOk s) := Lib.hid fun h => hny (((fok_step HTK.out).1 (fok_take h.fok (k + 1))).2.1 y hk0 hy)
              obtain ⟨j, rfl⟩ : ∃ j, k = j + 1 := ⟨k - 1, by omega⟩
              have q3 : decide ((0 : Int) < ((j + 1 : Nat) : Int)) = true := by simp
              have dy' : W1.cell? ⟨b1, o1 + j, none⟩ = some (.slice Ay y.length cy) := dy
              have wk : ((j + 1 : Nat) : Int) - 1 = (j : Int) := by omega
              have hj1 : (0 : Int) ≤ (j : Int) := by omega
              have hj2 : (j : Int) < (s.F.length : Int) := by omega
              have q4 : decide ((0 : Int) ≤ cmpS y t) = true := by unfold ltS at hny; simp; omega
              clear hyu hy hny dy
              go_wp2_with fail
              refine (compare_any _ _ y t _ HYU.out HU.out).mono ?_
              rintro e w2 ⟨rfl, rfl⟩
              go_wp2_with fail
              go_ret
              exact CheckPost.no HN.out HB.out
            · have HPRE : Hid (∀ y, 0 < k → s.F[k - 1]? = some y → ltS y t) := Lib.hid fun y h0 hy => Classical.byContradiction fun hn => hbad ⟨y, h0, hy, hn⟩
              clear hbad
              rcases Nat.eq_zero_or_pos k with hk0 | hk0
              · subst hk0
                have q3 : decide ((0 : Int) < ((0 : Nat) : Int)) = false := by simp
                have d0' : W1.cell? ⟨b1, o1, none⟩ = some (.slice Au t.length cu) := d0
                have hcut0 : ∀ W, (Instr.slice 22 (.slice (some ⟨b1, o1, none⟩) s.F.length cF) none (some (.int .i64 0)) none).run Tryz.prog W = .ok (.slice (some ⟨b1, o1, none⟩) 0 cF) W := hcut
                go_wp2_with fail
                go_loop [53] (fun i => ∃ j : Nat, j ≤ 0 ∧ i = .int .i64 j) (fun _ => 0)
                case atStart => exact ⟨0, Nat.zero_le _, rfl⟩
                case round =>
                  obtain ⟨j, hj, rfl⟩ := hrel
                  obtain rfl : j = 0 := by omega
                  go_wp2_with fail
                  go_round
                  case rel => exact ⟨1, by omega, by go_num, Lib.hid ((fok_step HTK.out).2 ⟨List.Pairwise.nil, HPRE.out, fun _ h => by cases h⟩)⟩
                  case measure => simp [intOf]; omega
              · obtain ⟨y, hy⟩ := get_some (l := s.F) (k := k - 1) (by omega)
                have hly := HPRE.out y hk0 hy
                obtain ⟨uy, dy, hyu⟩ := HCELL.out (k - 1) y hy
                obtain ⟨Ay, cy, rfl⟩ := SI.slice_form hyu
                have HYU := Lib.hid hyu
                obtain ⟨j, rfl⟩ : ∃ j, k = j + 1 := ⟨k - 1, by omega⟩
                have q3 : decide ((0 : Int) < ((j + 1 : Nat) : Int)) = true := by simp
                have dy' : W1.cell? ⟨b1, o1 + j, none⟩ = some (.slice Ay y.length cy) := dy
                have wk : ((j + 1 : Nat) : Int) - 1 = (j : Int) := by omega
                have hj1 : (0 : Int) ≤ (j : Int) := by omega
                have hj2 : (j : Int) < (s.F.length : Int) := by omega
                have q5 : (j : Int) + 1 ≤ (cF : Int) := by omega
                have q4 : decide ((0 : Int) ≤ cmpS y t) = false := by unfold ltS at hly; simp; omega
                clear hyu hy hly dy
                go_wp2_with fail
                refine (compare_any _ _ y t _ HYU.out HU.out).mono ?_
                rintro e w2 ⟨rfl, rfl⟩
                go_wp2_with fail
                clear dy' q4 q3
                go_loop [53] (fun i => ∃ m : Nat, m ≤ j + 1 ∧ i = .int .i64 m ∧ Hid (∀ u ∈ s.F.take m, ¬ PSub u t)) (fun i => j + 1 - (intOf i).toNat)
                case atStart => exact ⟨0, Nat.zero_le _, rfl, Lib.hid (fun _ h => by cases h)⟩
                case round =>
                  obtain ⟨m, hm, rfl, HP⟩ := hrel
                  by_cases hmj : m < j + 1
                  · obtain ⟨z, hz⟩ := get_some (l := s.F) (k := m) (by omega)
                    obtain ⟨uz, dz, hzu⟩ := HCELL.out m z hz
                    obtain ⟨Az, cz, rfl⟩ := SI.slice_form hzu
                    have HZU := Lib.hid hzu
                    have HZ := Lib.hid hz
                    have HZV : Hid (Valid z) := Lib.hid (HVF.out z (List.mem_of_getElem? hz))
                    clear hzu hz
                    cases hps : bOf (PSub z t) with
                    | true =>
                      have HN : Hid (¬ SrOk s) := Lib.hid fun h => ((fok_step HTK.out).1 (fok_take h.fok (j + 1 + 1))).2.2 z (by
                        obtain ⟨hl, rfl⟩ := List.getElem?_eq_some_iff.1 HZ.out
                        exact List.mem_take_iff_getElem.2 ⟨m, by omega, rfl⟩) (bOf_iff.1 hps)
                      have HPS := Lib.hid hps
                      clear hps
                      go_wp2_with fail
                      refine (properly_eq _ _ z t _ HZU.out HU.out HZV.out.2 HTV.out.2 HPS.out).mono ?_
                      rintro e w2 ⟨rfl, rfl⟩
                      go_wp2_with fail
                      go_ret
                      exact CheckPost.no HN.out HB.out
                    | false =>
                      have HPS := Lib.hid hps
                      clear hps
                      go_wp2_with fail
                      refine (properly_eq _ _ z t _ HZU.out HU.out HZV.out.2 HTV.out.2 HPS.out).mono ?_
                      rintro e w2 ⟨rfl, rfl⟩
                      go_wp2_with fail
                      go_round
                      case rel => exact ⟨m + 1, by omega, by go_num, Lib.hid (fun u hu => by
                                    rw [take_snoc HZ.out] at hu
                                    rcases List.mem_append.1 hu with hu | hu
                                    · exact HP.out u hu
                                    · rw [List.mem_singleton.1 hu]; exact bOf_false_iff.1 HPS.out)⟩
                      case measure => simp [intOf]; omega
                  · obtain rfl : m = j + 1 := by omega
                    go_wp2_with fail
                    go_round
                    case rel => exact ⟨j + 1 + 1, by omega, by go_num, Lib.hid ((fok_step HTK.out).2 ⟨HR.out, HPRE.out, HP.out⟩)⟩
                    case measure => simp [intOf]; omega
          · obtain rfl : k = s.F.length := by omega
            have HFOK : Hid (FOK s.F) := Lib.hid (by have := HR.out; rwa [List.take_length] at this)
            clear HR
            go_wp2_with fail
            have HMADE : Hid (MapF (W1.alloc (.map #[] 0)) K9 W1.heap.size 0 (keyF (s.O.take 0))) := Lib.hid ((MapF.made W1 K9).congr fun x _ => by unfold keyF; rw [if_neg (by simp)])
            have hB0 : Below W1.heap.size W1 (W1.alloc (.map #[] 0)) := (Below.refl _ _).alloc (Nat.le_refl _) _
            go_loopw [66] (fun i wr => ∃ k : Nat, k ≤ s.O.length ∧ i = .int .i64 k ∧ Hid (OOK s.O (s.O.take k)) ∧ Hid (MapF wr K9 W1.heap.size k (keyF (s.O.take k))) ∧ Below W1.heap.size W1 wr) (fun i _ => s.O.length - (intOf i).toNat)
            case atStart => exact ⟨0, Nat.zero_le _, rfl, Lib.hid ⟨List.nodup_nil, List.Pairwise.nil, fun _ h => by cases h⟩, HMADE, hB0⟩
            case round =>
              clear HMADE hB0
              obtain ⟨k, hk, rfl, HR, HM, hBr⟩ := hrel
              have e1 : wr.cell? ⟨w.heap.size, 1, none⟩ = some (.slice AO s.O.length cO) := (hBr.cell (p := ⟨w.heap.size, 1, none⟩) hwl).trans c1
              have e2 : wr.cell? ⟨w.heap.size, 2, none⟩ = some (.int .i64 s.sp) := (hBr.cell (p := ⟨w.heap.size, 2, none⟩) hwl).trans c2
              have e3 : wr.cell? ⟨w.heap.size, 3, none⟩ = some (.bool s.dn) := (hBr.cell (p := ⟨w.heap.size, 3, none⟩) hwl).trans c3
              by_cases hlt : k < s.O.length
              · clear e2 e3
                obtain ⟨b1, o1, hAe, hb1, hcell⟩ := HAO.out (by omega)
                obtain ⟨t, ht⟩ := get_some hlt
                obtain ⟨u, d0, hu⟩ := hcell k t ht
                obtain ⟨z, hz⟩ := get_some (l := s.O) (k := 0) (by omega)
                obtain ⟨uz, dz, hzu⟩ := hcell 0 z hz
                obtain ⟨Au, cu, rfl⟩ := SI.slice_form hu
                obtain ⟨Az, cz, rfl⟩ := SI.slice_form hzu
                have HZH : Hid ((s.O.headD []).length = z.length) := Lib.hid (by
                  cases hO : s.O with
                  | nil => rw [hO] at hz; cases hz
                  | cons a r => rw [hO] at hz; simp at hz; simp [hz])
                have d1 := (hBr.cell (p := ⟨b1, o1 + k, none⟩) hb1).trans d0
                have HU := Lib.hid (hu.up hBr)
                have HTK := Lib.hid ht
                have HTV : Hid (Valid t) := Lib.hid (HVO.out t (List.mem_of_getElem? ht))
                have htl := valid_len HTV.out
                have hzl : z.length ≤ 1024 := valid_len (HVO.out z (List.mem_of_getElem? hz))
                have HTW : Hid (∀ x ∈ t, wfI x) := Lib.hid fun x hx => by have := HTV.out.1 x hx; exact wfI_of (by omega) (by omega)
                have HKL : Hid ((keyL t).length ≤ maxLen) := Lib.hid (by have := keyL_len t HTW.out; unfold maxLen; omega)
                have HPV : Hid (0 < k → ∃ y Ay cy, s.O[k - 1]? = some y ∧ y.length ≤ 1024 ∧ W1.cell? ⟨b1, o1 + (k - 1), none⟩ = some (.slice Ay y.length cy)) := Lib.hid fun h0 => by
                  obtain ⟨y, hy⟩ := get_some (l := s.O) (k := k - 1) (by omega)
                  obtain ⟨uy, dy, hyu⟩ := hcell (k - 1) y hy
                  obtain ⟨Ay, cy, rfl⟩ := SI.slice_form hyu
                  exact ⟨y, Ay, cy, hy, valid_len (HVO.out y (List.mem_of_getElem? hy)), dy⟩
                subst hAe
                have HB1 := Lib.hid hb1
                clear hu ht hcell hz hzu d0
                have q1 : (0 : Int) ≤ (k : Int) := by omega
                have q2 : (k : Int) < (s.O.length : Int) := by omega
                have q0 : (0 : Int) < (s.O.length : Int) := by omega
                -- the row as it was before the key
                have dz0 : W1.cell? ⟨b1, o1, none⟩ = some (.slice Az z.length cz) := dz
                have Hzk := Lib.hid dz0
                clear dz dz0
                rcases Nat.eq_zero_or_pos k with hk0 | hk0
                · subst hk0
                  have d1' : wr.cell? ⟨b1, o1, none⟩ = some (.slice Au t.length cu) := d1
                  go_wp2_with fail
                  refine (key_any _ t _ HU.out HTW.out (by omega) (HT.out.up hBr)).mono ?_
                  rintro e w2 ⟨rfl, hB2⟩
                  have hBa := bAfter hBr hB2
                  have HM2 := Lib.hid (HM.out.up hB2)
                  have f1 : w2.cell? ⟨w.heap.size, 1, none⟩ = some (.slice (some ⟨b1, o1, none⟩) s.O.length cO) := (hBa.cell (p := ⟨w.heap.size, 1, none⟩) hwl).trans c1
                  have f4 : w2.cell? ⟨b1, o1, none⟩ = some (.slice Az z.length cz) := (hBa.cell (p := ⟨b1, o1, none⟩) HB1.out).trans Hzk.out
                  have hlk := keyF_look HM2.out HKL.out (c := false) (bOf_false (by simp))
                  have hzt : z.length = t.length := by
                    have h1 := (hB2.cell (p := ⟨b1, o1, none⟩) (Nat.lt_of_lt_of_le HB1.out hBr.size)).trans d1'
                    rw [f4] at h1; injection h1 with h1; injection h1
                  have q5 : decide ((z.length : Int) + 1 < (t.length : Int)) = false := by simp; omega
                  clear hB2
                  go_wp2_with (at_mapUpdate; refine wpList_put _ rfl _ _ _ 60 rfl 4 K9 Tryz.underlying60 W1.heap.size _ _ rfl HM2.out ?c1 (keyL t) HKL.out (.bool true) rfl rfl ?_)
                  case c1 => unfold maxLen; omega
                  intro w3 hm3 hg3
                  rw [keyF_snoc] at hm3
                  have HM3 : Hid (MapF w3 K9 W1.heap.size 1 (keyF (s.O.take 1))) := Lib.hid (by have e := take_snoc HTK.out; rw [e]; exact hm3)
                  have hB3 := grown_below hBa hg3 (fun k e => by cases e; exact Nat.le_refl _)
                  clear hm3 hg3
                  go_wp2_with fail
                  go_roundw
                  case rel => exact ⟨1, by omega, by go_num, Lib.hid ((ook_step HTK.out).2 ⟨HR.out, by simp, fun _ h => by omega, by rw [HZH.out]; omega⟩), HM3, hB3⟩
                  case measure => simp [intOf]; omega
                · obtain ⟨y, Ay, cy, hy, hyl, dy⟩ := HPV.out hk0
                  have HY := Lib.hid hy
                  obtain ⟨j, rfl⟩ : ∃ j, k = j + 1 := ⟨k - 1, by omega⟩
                  have q3 : decide ((0 : Int) < ((j + 1 : Nat) : Int)) = true := by simp
                  have wk : ((j + 1 : Nat) : Int) - 1 = (j : Int) := by omega
                  have hj1 : (0 : Int) ≤ (j : Int) := by omega
                  have hj2 : (j : Int) < (s.O.length : Int) := by omega
                  have Hdy : Hid (W1.cell? ⟨b1, o1 + j, none⟩ = some (.slice Ay y.length cy)) := Lib.hid dy
                  clear dy hy HPV
                  go_wp2_with fail
                  refine (key_any _ t _ HU.out HTW.out (by omega) (HT.out.up hBr)).mono ?_
                  rintro e w2 ⟨rfl, hB2⟩
                  have hBa := bAfter hBr hB2
                  have HM2 := Lib.hid (HM.out.up hB2)
                  have HB' := Lib.hid (bAfter HB.out hBa)
                  have f1 : w2.cell? ⟨w.heap.size, 1, none⟩ = some (.slice (some ⟨b1, o1, none⟩) s.O.length cO) := (hBa.cell (p := ⟨w.heap.size, 1, none⟩) hwl).trans c1
                  have f4 : w2.cell? ⟨b1, o1, none⟩ = some (.slice Az z.length cz) := (hBa.cell (p := ⟨b1, o1, none⟩) HB1.out).trans Hzk.out
                  have f5 : w2.cell? ⟨b1, o1 + j, none⟩ = some (.slice Ay y.length cy) := (hBa.cell (p := ⟨b1, o1 + j, none⟩) HB1.out).trans Hdy.out
                  clear hB2
                  cases hin : bOf (t ∈ s.O.take (j + 1)) with
                  | true =>
                    have hlk := keyF_look HM2.out HKL.out hin
                    have HN : Hid (¬ SrOk s) := Lib.hid fun h => ((ook_step HTK.out).1 (ook_take h.ook (j + 1 + 1))).2.1 (bOf_iff.1 hin)
                    clear hin
                    go_wp2_with fail
                    go_ret
                    exact CheckPost.no HN.out HB'.out
                  | false =>
                    have hlk := keyF_look HM2.out HKL.out hin
                    have HNI := Lib.hid (bOf_false_iff.1 hin)
                    clear hin
                    by_cases hty : t.length < y.length
                    · have HN : Hid (¬ SrOk s) := Lib.hid fun h => by have := ((ook_step HTK.out).1 (ook_take h.ook (j + 1 + 1))).2.2.1 y (by omega) HY.out; omega
                      have q5 : decide ((t.length : Int) < (y.length : Int)) = true := by simp; omega
                      go_wp2_with fail
                      go_ret
                      exact CheckPost.no HN.out HB'.out
                    · have q5 : decide ((t.length : Int) < (y.length : Int)) = false := by simp; omega
                      by_cases htz : z.length + 1 < t.length
                      · have HN : Hid (¬ SrOk s) := Lib.hid fun h => by have := ((ook_step HTK.out).1 (ook_take h.ook (j + 1 + 1))).2.2.2; rw [HZH.out] at this; omega
                        have q6 : decide ((z.length : Int) + 1 < (t.length : Int)) = true := by simp; omega
                        go_wp2_with fail
                        go_ret
                        exact CheckPost.no HN.out HB'.out
                      · have q6 : decide ((z.length : Int) + 1 < (t.length : Int)) = false := by simp; omega
                        have HST : Hid (OOK s.O (s.O.take (j + 1 + 1))) := Lib.hid ((ook_step HTK.out).2 ⟨HR.out, HNI.out, fun y' _ hy' => by
                          have := HY.out
                          rw [hy'] at this; injection this with this; rw [this]; omega, by rw [HZH.out]; omega⟩)
                        go_wp2_with (at_mapUpdate; refine wpList_put _ rfl _ _ _ 60 rfl 4 K9 Tryz.underlying60 W1.heap.size _ _ rfl HM2.out ?c1 (keyL t) HKL.out (.bool true) rfl rfl ?_)
                        case c1 => unfold maxLen; omega
                        intro w3 hm3 hg3
                        rw [keyF_snoc, ← take_snoc HTK.out] at hm3
                        have HM3 := Lib.hid hm3
                        have hB3 := grown_below hBa hg3 (fun k e => by cases e; exact Nat.le_refl _)
                        clear hm3 hg3
                        go_wp2_with fail
                        go_roundw
                        case rel => exact ⟨j + 1 + 1, by omega, by go_num, HST, HM3, hB3⟩
                        case measure => simp [intOf]; omega
              · obtain rfl : k = s.O.length := by omega
                have HOOK : Hid (OOK s.O s.O) := Lib.hid (by have := HR.out; rwa [List.take_length] at this)
                have HB' := Lib.hid (bAfter HB.out hBr)
                clear HR
                by_cases h1 : s.sp < 0
                · have HN : Hid (¬ SrOk s) := Lib.hid fun h => by have := h.sp; omega
                  go_wp2_with fail
                  go_ret
                  exact CheckPost.no HN.out HB'.out
                · have p1 : decide (s.sp < 0) = false := by simp; omega
                  by_cases h2 : 1073741824 < s.sp
                  · have HN : Hid (¬ SrOk s) := Lib.hid fun h => by have := h.sp; omega
                    go_wp2_with fail
                    go_ret
                    exact CheckPost.no HN.out HB'.out
                  · have p2 : decide (1073741824 < s.sp) = false := by simp; omega
                    obtain ⟨z, hz⟩ : ∃ z : Bool, decide (s.O.length = 0) = z := ⟨_, rfl⟩
                    have z1 : ((s.O.length : Int) == 0) = z := by rw [← hz]; by_cases h : s.O.length = 0 <;> simp [h]
                    have z2 : decide ((s.O.length : Int) = 0) = z := by rw [← hz]; by_cases h : s.O.length = 0 <;> simp [h]
                    have HZ := Lib.hid hz
                    obtain ⟨d, hd⟩ : ∃ d : Bool, s.dn = d := ⟨_, rfl⟩
                    have HD := Lib.hid hd
                    rw [hd] at e3
                    clear hz hd
                    by_cases h3 : d = z
                    · have HY : Hid (SrOk s) := Lib.hid ⟨HVF.out, HVO.out, by omega, HFOK.out, HOOK.out, by omega, by rw [HD.out, h3, HZ.out]⟩
                      cases d <;> cases z <;> first | (exact absurd h3 (by decide)) | skip
                      all_goals
                        go_wp2_with fail
                        go_ret
                        exact CheckPost.yes HY.out HB'.out
                    · have HN : Hid (¬ SrOk s) := Lib.hid fun h => h3 (by rw [← HD.out, ← HZ.out]; exact h.dn)
                      cases d <;> cases z <;> first | (exact absurd rfl h3) | skip
                      all_goals
                        go_wp2_with fail
                        go_ret
                        exact CheckPost.no HN.out HB'.out
end Go.Proofs.YtbmdfnifbimfmaaGreatDoor
