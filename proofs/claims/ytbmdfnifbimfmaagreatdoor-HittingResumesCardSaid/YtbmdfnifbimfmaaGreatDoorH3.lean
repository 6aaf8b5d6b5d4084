/- Walks: meets, Hits. -/
import Derived.Test.YtbmdfnifbimfmaaGreatDoorH2
namespace Go.Proofs.YtbmdfnifbimfmaaGreatDoor
open Go.RowKit

def Meet (a b : List Int) : Prop := ∃ x ∈ a, x ∈ b
noncomputable def K3 : KK Tryz.prog 3 Int := intKK Tryz.underlying3
/-- The function of a set: its elements hold true. -/
noncomputable def setF (l : List Int) : Int → Option Value := fun x => if x ∈ l then some (.bool true) else none
theorem setF_snoc (l : List Int) (x : Int) : upd (setF l) x (some (.bool true)) = setF (l ++ [x]) := by
  funext y
  unfold upd setF
  by_cases h : y = x
  · rw [if_pos h, if_pos (by simp [h])]
  · rw [if_neg h]
    by_cases h2 : y ∈ l
    · rw [if_pos h2, if_pos (by simp [h2])]
    · rw [if_neg h2, if_neg (by simp [h, h2])]
theorem setF_get (l : List Int) (x : Int) : (setF l x).getD (.bool false) = .bool (bOf (x ∈ l)) := by
  unfold setF
  by_cases h : x ∈ l
  · rw [if_pos h, bOf_true h]; rfl
  · rw [if_neg h, bOf_false h]; rfl
theorem setF_look {w : World} {b n : Nat} {l : List Int} (h : MapF w K3 b n (setF l)) {x : Int} (hx : wfI x) {c : Bool} (hc : bOf (x ∈ l) = c) :
    (Instr.lookup 68 (.map (some b)) (.int .i64 x) false).run Tryz.prog w = .ok (.bool c) w := by
  have := h.look Tryz.underlying68 (Tryz.zeroValue4 w) hx
  rw [setF_get, hc] at this
  exact this

set_option maxHeartbeats 1000000 in
theorem meets_any (v1 v2 : Value) (a b : List Int) (w : World) (h1 : SI w v1 a) (h2 : SI w v2 b) (ha : ∀ x ∈ a, wfI x) (hb : ∀ x ∈ b, wfI x) (hla : a.length ≤ 1000000) :
    Calls Tryz.prog 32 #[v1, v2] w fun e w' => e = .returned (.bool (bOf (Meet a b))) ∧ Below w.heap.size w w' := by
  obtain ⟨A1, c1, rfl, _, hm1, hA1⟩ := h1.form
  obtain ⟨A2, c2, rfl, _, hm2, hA2⟩ := h2.form
  have g2 := h2.len_le
  unfold maxLen at hm1 hm2 g2
  have H1 := Lib.hid hA1
  have H2 := Lib.hid hA2
  have HA := Lib.hid ha
  have HB := Lib.hid hb
  clear hA1 hA2 h1 h2 hm1 hm2 ha hb
  have hmm := @run_makeMap Tryz.prog
  go_enter Tryz.func32, Tryz.ntmps32
  go_wp2
  go_loopw [13] (fun i wr => ∃ k : Nat, k ≤ a.length ∧ i = .int .i64 k ∧ Hid (MapF wr K3 w.heap.size k (setF (a.take k))) ∧ Below w.heap.size w wr) (fun i _ => a.length - (intOf i).toNat)
  case atStart => exact ⟨0, Nat.zero_le _, rfl, Lib.hid (by have := MapF.made w K3; exact this.congr fun x _ => by unfold setF; rw [if_neg (by simp)]), (Below.refl _ _).alloc (Nat.le_refl _) _⟩
  case round =>
    obtain ⟨k, hk, rfl, HM, hB⟩ := hrel
    by_cases hlt : k < a.length
    · obtain ⟨b1, o1, rfl, hb1, hc1⟩ := H1.out (by omega)
      obtain ⟨x, hx⟩ := get_some hlt
      have d1 := (hB.cell (p := ⟨b1, o1 + k, none⟩) hb1).trans (hc1 k x hx)
      have hwx := Lib.hid (HA.out x (List.mem_of_getElem? hx))
      have HX := Lib.hid hx
      clear hc1 hx
      go_wp2_with (at_mapUpdate; refine wpList_put _ rfl _ _ _ 68 rfl 4 K3 Tryz.underlying68 w.heap.size k _ rfl HM.out ?c1 x hwx.out (.bool true) rfl rfl ?_)
      case c1 => unfold maxLen; omega
      intro w1 hm1 hg1
      rw [setF_snoc, ← take_snoc HX.out] at hm1
      have HM1 := Lib.hid hm1
      have hB1 := grown_below hB hg1 (fun k e => by cases e; exact Nat.le_refl _)
      clear hm1 hg1
      go_wp2_with fail
      go_roundw
      case rel => exact ⟨k + 1, by omega, by go_num, HM1, hB1⟩
      case measure => simp [intOf]; omega
    · obtain rfl : k = a.length := by omega
      have HM2 : Hid (MapF wr K3 w.heap.size a.length (setF a)) := Lib.hid (by have := HM.out; rwa [List.take_length] at this)
      clear HM
      go_wp2_with fail
      go_loop [22] (fun i => ∃ k : Nat, k ≤ b.length ∧ i = .int .i64 k ∧ Hid (∀ x ∈ b.take k, x ∉ a)) (fun i => b.length - (intOf i).toNat)
      case atStart => exact ⟨0, Nat.zero_le _, rfl, Lib.hid fun _ h => by cases h⟩
      case round =>
        obtain ⟨k, hk, rfl, HR⟩ := hrel
        by_cases hlt : k < b.length
        · obtain ⟨b1, o1, rfl, hb1, hc1⟩ := H2.out (by omega)
          obtain ⟨x, hx⟩ := get_some hlt
          have d1 := (hB.cell (p := ⟨b1, o1 + k, none⟩) hb1).trans (hc1 k x hx)
          have HX := Lib.hid hx
          have hwx := HB.out x (List.mem_of_getElem? hx)
          clear hc1 hx
          cases hin : bOf (x ∈ a) with
          | true =>
            have hl := setF_look HM2.out hwx hin
            have HI := Lib.hid hin
            clear hin hwx
            go_wp2_with fail
            go_ret
            exact ⟨ret_bool (bOf_true ⟨x, bOf_iff.1 HI.out, List.mem_of_getElem? HX.out⟩).symm, hB⟩
          | false =>
            have hl := setF_look HM2.out hwx hin
            have HI := Lib.hid hin
            clear hin hwx
            go_wp2_with fail
            go_round
            case rel => exact ⟨k + 1, by omega, by go_num, Lib.hid fun y hy => by
                          rw [take_snoc HX.out] at hy
                          rcases List.mem_append.1 hy with hy | hy
                          · exact HR.out y hy
                          · simp at hy; subst hy; exact bOf_false_iff.1 HI.out⟩
            case measure => simp [intOf]; omega
        · obtain rfl : k = b.length := by omega
          go_wp2_with fail
          go_ret
          exact ⟨ret_bool (bOf_false (by have := HR.out; rw [List.take_length] at this; rintro ⟨x, h1, h2⟩; exact this x h2 h1)).symm, hB⟩
theorem meets_eq (v1 v2 : Value) (a b : List Int) (w : World) (h1 : SI w v1 a) (h2 : SI w v2 b) (ha : ∀ x ∈ a, wfI x) (hb : ∀ x ∈ b, wfI x) (hla : a.length ≤ 1000000) {c : Bool} (hc : bOf (Meet a b) = c) :
    Calls Tryz.prog 32 #[v1, v2] w fun e w' => e = .returned (.bool c) ∧ Below w.heap.size w w' := by
  subst hc; exact meets_any v1 v2 a b w h1 h2 ha hb hla

def wfS (L : List (List Int)) : Prop := ∀ l ∈ L, ∀ x ∈ l, wfI x
theorem wfI_iff {x : Int} : wfI x ↔ -9223372036854775808 ≤ x ∧ x ≤ 9223372036854775807 := by
  unfold wfI
  simp only [Lit.wf, Bool.and_eq_true, decide_eq_true_eq]
  exact Iff.rfl
theorem wfI_of {x : Int} (h0 : -9223372036854775808 ≤ x) (h1 : x ≤ 9223372036854775807) : wfI x := wfI_iff.2 ⟨h0, h1⟩

set_option maxHeartbeats 1000000 in
theorem Hits_any (v1 v2 : Value) (L : List (List Int)) (s : List Int) (w : World) (h1 : SS w v1 L) (h2 : SI w v2 s) (hL : wfS L) (hs : ∀ x ∈ s, wfI x) (hls : s.length ≤ 1000000) :
    Calls Tryz.prog 14 #[v1, v2] w fun e w' => e = .returned (.bool (bOf (∀ l ∈ L, Meet s l))) ∧ Below w.heap.size w w' := by
  obtain ⟨A1, c1, rfl, hc1, hm1, hA1⟩ := h1.form
  unfold maxLen at hm1
  obtain ⟨A2, c2, rfl⟩ := SI.slice_form h2
  have H1 := Lib.hid hA1
  have H2 := Lib.hid h2
  have HL := Lib.hid hL
  have HS := Lib.hid hs
  clear hA1 h1 h2 hL hs
  go_enter Tryz.func14, Tryz.ntmps14
  go_wp2
  go_loopw [9] (fun i wr => ∃ k : Nat, k ≤ L.length ∧ i = .int .i64 k ∧ Hid (∀ l ∈ L.take k, Meet s l) ∧ Below w.heap.size w wr) (fun i _ => L.length - (intOf i).toNat)
  case atStart => exact ⟨0, Nat.zero_le _, rfl, Lib.hid (fun _ h => by cases h), Below.refl _ _⟩
  case round =>
    obtain ⟨k, hk, rfl, HR, hB⟩ := hrel
    by_cases hlt : k < L.length
    · obtain ⟨b1, o1, rfl, hb1, hcell⟩ := H1.out (by omega)
      obtain ⟨x, hx⟩ := get_some hlt
      obtain ⟨u, d0, hu⟩ := hcell k x hx
      obtain ⟨Au, cu, rfl⟩ := SI.slice_form hu
      have d1 := (hB.cell (p := ⟨b1, o1 + k, none⟩) hb1).trans d0
      have HX := Lib.hid hx
      have HU := Lib.hid (S1.up hu hB)
      have H2' := Lib.hid (S1.up H2.out hB)
      have HW := Lib.hid (HL.out x (List.mem_of_getElem? hx))
      clear hx hu hcell d0
      cases hv : bOf (Meet s x) with
      | true =>
        have HV := Lib.hid hv
        clear hv
        go_wp2_with fail
        refine (meets_eq _ _ s x _ H2'.out HU.out HS.out HW.out hls HV.out).mono ?_
        rintro e w1 ⟨rfl, hB1⟩
        go_wp2_with fail
        go_roundw
        case rel => exact ⟨k + 1, by omega, by go_num, Lib.hid (fun l hl => by
                      rw [take_snoc HX.out] at hl
                      rcases List.mem_append.1 hl with hl | hl
                      · exact HR.out l hl
                      · simp at hl; subst hl; exact bOf_iff.1 HV.out), bAfter hB hB1⟩
        case measure => simp [intOf]; omega
      | false =>
        have HV := Lib.hid hv
        clear hv
        go_wp2_with fail
        refine (meets_eq _ _ s x _ H2'.out HU.out HS.out HW.out hls HV.out).mono ?_
        rintro e w1 ⟨rfl, hB1⟩
        go_wp2_with fail
        go_ret
        exact ⟨ret_bool (bOf_false fun h => bOf_false_iff.1 HV.out (h x (List.mem_of_getElem? HX.out))).symm, bAfter hB hB1⟩
    · obtain rfl : k = L.length := by omega
      go_wp2_with fail
      go_ret
      exact ⟨ret_bool (bOf_true (by have := HR.out; rwa [List.take_length] at this)).symm, hB⟩
theorem Hits_eq (v1 v2 : Value) (L : List (List Int)) (s : List Int) (w : World) (h1 : SS w v1 L) (h2 : SI w v2 s) (hL : wfS L) (hs : ∀ x ∈ s, wfI x) (hls : s.length ≤ 1000000) {c : Bool} (hc : bOf (∀ l ∈ L, Meet s l) = c) :
    Calls Tryz.prog 14 #[v1, v2] w fun e w' => e = .returned (.bool c) ∧ Below w.heap.size w w' := by
  subst hc; exact Hits_any v1 v2 L s w h1 h2 hL hs hls
end Go.Proofs.YtbmdfnifbimfmaaGreatDoor
