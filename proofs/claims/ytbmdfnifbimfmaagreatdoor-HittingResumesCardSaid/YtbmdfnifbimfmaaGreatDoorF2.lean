/- Walks: choose, critical. -/
import Derived.Test.YtbmdfnifbimfmaaGreatDoorF1
namespace Go.Proofs.YtbmdfnifbimfmaaGreatDoor
open Go.RowKit

section
variable {K : FK} {w : World} {now : List Int} {fr : Int → Bool}
theorem FamC.elem_wf (h : FamC K w) {x : Int} (hx : x ∈ K.S.flatten) : wfI x ∧ 0 ≤ x ∧ x ≤ 1023 := by
  obtain ⟨s, hs, hxs⟩ := List.mem_flatten.1 hx
  have := (h.valid s hs).1 x hxs
  exact ⟨wfI_of (by omega) (by omega), this.1, this.2⟩
theorem FamS.free_look (h : FamS K w now fr) {x : Int} (hx : x ∈ K.S.flatten) (hw : wfI x) {b : Bool} (hb : fr x = b) :
    (Instr.lookup 68 (.map (some K.mf)) (.int .i64 x) false).run Tryz.prog w = .ok (.bool b) w := by
  have := h.free.look Tryz.underlying68 (Tryz.zeroValue4 w) hw
  unfold freeF at this
  rw [if_pos hx, hb] at this
  exact this
theorem FamS.hit_cell (h : FamS K w now fr) {k : Nat} {s : List Int} (hs : K.S[k]? = some s) : w.cell? ⟨K.hb, k, none⟩ = some (.int .i64 (cnt now s : Int)) := by
  have := h.hits.cells (g := K.hb) rfl k (.int .i64 (cnt now s : Int)) (by unfold hitsL; rw [List.getElem?_map, List.getElem?_map, hs]; rfl)
  rwa [add_lit, Nat.zero_add] at this
theorem FamC.set_cells (h : FamC K w) : ∃ A c, K.vs = .slice A K.S.length c ∧ (0 < K.S.length → ∃ b off, A = some ⟨b, off, none⟩ ∧ b < w.heap.size ∧ ∀ i x, K.S[i]? = some x → ∃ u, w.cell? ⟨b, off + i, none⟩ = some u ∧ SI w u x) := by
  obtain ⟨ps, e, ho, _, hp⟩ := h.sets
  have hss : SS w K.vs K.S := ⟨ps, e, own_S1 ho, fun p hp' => (hp p hp').1⟩
  obtain ⟨A, c, e1, _, _, hA⟩ := hss.form
  exact ⟨A, c, e1, hA⟩
end

def ChoosePost (K : FK) (w : World) (now : List Int) (e : Ending) (w' : World) : Prop :=
  w = w' ∧ ((e = .returned (.int .i64 (-1)) ∧ ∀ s ∈ K.S, 0 < cnt now s) ∨ ∃ (j : Nat) (s : List Int), e = .returned (.int .i64 j) ∧ K.S[j]? = some s ∧ cnt now s = 0)
/-- What choose knows after k sets. -/
def ChI (S : List (List Int)) (now : List Int) (k : Nat) (at_ : Int) : Prop := (at_ = -1 ∧ ∀ s ∈ S.take k, 0 < cnt now s) ∨ ∃ (j : Nat) (s : List Int), at_ = j ∧ S[j]? = some s ∧ cnt now s = 0

set_option maxRecDepth 100000 in
set_option maxHeartbeats 2000000 in
theorem choose_any (K : FK) (w : World) (now : List Int) (fr : Int → Bool) (h : Fam K w now fr) : Calls Tryz.prog 70 #[K.p] w (ChoosePost K w now) := by
  obtain ⟨hC, hS⟩ := h
  obtain ⟨A, c, hvs, hA⟩ := hC.set_cells
  obtain ⟨nv, hblk, _⟩ := hS.blk
  rw [hvs] at hblk
  have a0 : w.cell? ⟨K.a, 0, none⟩ = some (.slice A K.S.length c) := hblk.cell 0
  have a2 : w.cell? ⟨K.a, 2, none⟩ = some K.hv := hblk.cell 2
  have a3 : w.cell? ⟨K.a, 3, none⟩ = some (.map (some K.mf)) := hblk.cell 3
  have hfew := hC.few.1
  have HA := Lib.hid hA
  have HC := Lib.hid hC
  have HS := Lib.hid hS
  clear hA hC hS hvs hblk
  go_enter Tryz.func70, Tryz.ntmps70
  go_wp2_with fail
  go_loop [2, 3, 14] (fun av fv i => ∃ (k : Nat) (at_ f : Int), k ≤ K.S.length ∧ i = .int .i64 k ∧ av = .int .i64 at_ ∧ fv = .int .i64 f ∧ Hid (ChI K.S now k at_)) (fun _ _ i => K.S.length - (intOf i).toNat)
  case atStart => exact ⟨0, -1, 0, Nat.zero_le _, rfl, rfl, rfl, Lib.hid (.inl ⟨rfl, fun _ h => by cases h⟩)⟩
  case round =>
    obtain ⟨k, at_, f, hk, rfl, rfl, rfl, HR⟩ := hrel
    by_cases hlt : k < K.S.length
    · obtain ⟨b1, o1, rfl, hb1, hcell⟩ := HA.out (by omega)
      obtain ⟨s, hs⟩ := get_some hlt
      obtain ⟨u, d0, hu⟩ := hcell k s hs
      obtain ⟨Au, cu, rfl⟩ := SI.slice_form hu
      have d1 := HS.out.hit_cell hs
      have HSS := Lib.hid hs
      obtain ⟨_, _, hfu, _, _, hAu⟩ := hu.form
      obtain ⟨rfl, rfl⟩ : _ = Au ∧ _ = cu := by injection hfu with h1 h2 h3; exact ⟨h1.symm, h3.symm⟩
      have HU := Lib.hid hAu
      have gl := hu.len_le
      unfold maxLen at gl
      have HEL : Hid (∀ x ∈ s, x ∈ K.S.flatten) := Lib.hid fun x hx => List.mem_flatten.2 ⟨s, List.mem_of_getElem? hs, hx⟩
      clear hcell hs hu hfu hAu
      have q1 : (0 : Int) ≤ (k : Int) := by omega
      have q2 : (k : Int) < (K.S.length : Int) := by omega
      by_cases hc0 : 0 < cnt now s
      · have e1 : decide ((0 : Int) < (cnt now s : Int)) = true := by simp [hc0]
        have e1' : decide (0 < cnt now s) = true := by simp [hc0]
        go_wp2_with fail
        go_round
        case rel => exact ⟨k + 1, at_, f, by omega, by go_num, rfl, rfl, Lib.hid (by
                      rcases HR.out with ⟨h1, h2⟩ | h
                      · refine .inl ⟨h1, fun t ht => ?_⟩
                        rw [take_snoc HSS.out] at ht
                        rcases List.mem_append.1 ht with ht | ht
                        · exact h2 t ht
                        · rw [List.mem_singleton.1 ht]; exact hc0
                      · exact .inr h)⟩
        case measure => simp [intOf]; omega
      · have e1 : decide ((0 : Int) < (cnt now s : Int)) = false := by simp; omega
        have e1' : decide (0 < cnt now s) = false := by simp; omega
        have HC0 : Hid (cnt now s = 0) := Lib.hid (by omega)
        clear hc0
        go_wp2_with fail
        go_loop [6, 29] (fun nv i => ∃ j m : Nat, j ≤ s.length ∧ i = .int .i64 j ∧ nv = .int .i64 m ∧ m ≤ j) (fun _ i => s.length - (intOf i).toNat)
        case atStart => exact ⟨0, 0, Nat.zero_le _, rfl, rfl, Nat.le_refl _⟩
        case round =>
          obtain ⟨j, m, hj, rfl, rfl, hmj⟩ := hrel
          by_cases hjl : j < s.length
          · obtain ⟨b2, o2, rfl, hb2, hc2⟩ := HU.out (by omega)
            obtain ⟨x, hx⟩ := get_some hjl
            have d2 := hc2 j x hx
            have hxe := HEL.out x (List.mem_of_getElem? hx)
            have hxw := (HC.out.elem_wf hxe).1
            clear hc2 hx
            cases hf : fr x with
            | true =>
              have hl := HS.out.free_look hxe hxw hf
              clear hf hxe hxw
              go_wp2_with fail
              go_round
              case rel => exact ⟨j + 1, m + 1, by omega, by go_num, by go_num, by omega⟩
              case measure => simp [intOf]; omega
            | false =>
              have hl := HS.out.free_look hxe hxw hf
              clear hf hxe hxw
              go_wp2_with fail
              go_round
              case rel => exact ⟨j + 1, m, by omega, by go_num, rfl, by omega⟩
              case measure => simp [intOf]; omega
          · by_cases hat : at_ < 0
            · have p1 : decide (at_ < 0) = true := by simp [hat]
              go_wp2_with fail
              go_round
              case rel => exact ⟨k + 1, k, m, by omega, by go_num, rfl, rfl, Lib.hid (.inr ⟨k, s, rfl, HSS.out, HC0.out⟩)⟩
              case measure => simp [intOf]; omega
            · have p1 : decide (at_ < 0) = false := by simp; omega
              by_cases hmf : (m : Int) < f
              · have p2 : decide ((m : Int) < f) = true := by simp [hmf]
                go_wp2_with fail
                go_round
                case rel => exact ⟨k + 1, k, m, by omega, by go_num, rfl, rfl, Lib.hid (.inr ⟨k, s, rfl, HSS.out, HC0.out⟩)⟩
                case measure => simp [intOf]; omega
              · have p2 : decide ((m : Int) < f) = false := by simp; omega
                go_wp2_with fail
                go_round
                case rel => exact ⟨k + 1, at_, f, by omega, by go_num, rfl, rfl, Lib.hid (by
                              rcases HR.out with ⟨h1, _⟩ | h
                              · omega
                              · exact .inr h)⟩
                case measure => simp [intOf]; omega
    · obtain rfl : k = K.S.length := by omega
      go_wp2_with fail
      go_ret
      refine ⟨rfl, ?_⟩
      rcases HR.out with ⟨h1, h2⟩ | ⟨j, s, h1, h2, h3⟩
      · rw [List.take_length] at h2
        subst h1; exact .inl ⟨rfl, h2⟩
      · subst h1; exact .inr ⟨j, s, rfl, h2, h3⟩

/-- Each element of the current set is the only one in some set. -/
def Crit (S : List (List Int)) (now : List Int) : Prop := ∀ x ∈ now, ∃ s ∈ S, cnt now s = 1 ∧ x ∈ s
/-- What is still needed after k sets. -/
def needF (S : List (List Int)) (now : List Int) (k : Nat) (t : List Int) : Int → Option Value := fun x => if x ∈ now ∧ x ∉ t ∧ ¬ (S.take k).any (fun s => decide (cnt now s = 1) && decide (x ∈ s)) = true then some (.bool true) else none
theorem needF_setF (S : List (List Int)) (now : List Int) : needF S now 0 [] = setF now := by
  funext x
  unfold needF setF
  by_cases h : x ∈ now <;> simp [h]
theorem needF_del (S : List (List Int)) (now : List Int) (k : Nat) (t : List Int) (x : Int) : upd (needF S now k t) x none = needF S now k (t ++ [x]) := by
  funext y
  unfold upd needF
  by_cases h : y = x
  · rw [if_pos h, if_neg]; rintro ⟨_, h2, _⟩; exact h2 (by simp [h])
  · rw [if_neg h]
    by_cases h1 : y ∈ now ∧ y ∉ t ∧ ¬ (S.take k).any (fun s => decide (cnt now s = 1) && decide (y ∈ s)) = true
    · rw [if_pos h1, if_pos]; exact ⟨h1.1, by simp [h1.2.1, h], h1.2.2⟩
    · rw [if_neg h1, if_neg]; rintro ⟨a, b, c⟩; exact h1 ⟨a, fun hb => b (by simp [hb]), c⟩
theorem needF_skip {S : List (List Int)} {now : List Int} {k : Nat} {s : List Int} (hs : S[k]? = some s) (hc : cnt now s ≠ 1) : needF S now k [] = needF S now (k + 1) [] := by
  funext x
  unfold needF
  rw [take_snoc hs, List.any_append]
  simp [hc]
theorem needF_next {S : List (List Int)} {now : List Int} {k : Nat} {s : List Int} (hs : S[k]? = some s) (hc : cnt now s = 1) : needF S now k s = needF S now (k + 1) [] := by
  funext x
  unfold needF
  rw [take_snoc hs, List.any_append]
  by_cases hx : x ∈ s
  · rw [if_neg (fun h => h.2.1 hx), if_neg]; rintro ⟨_, _, h⟩; exact h (by simp [hx, hc])
  · simp [hx]
theorem needF_none (S : List (List Int)) (now : List Int) (hw : ∀ x ∈ now, wfI x) : (∀ x, wfI x → needF S now S.length [] x = none) ↔ Crit S now := by
  unfold needF Crit
  rw [List.take_length]
  constructor
  · intro h x hx
    have h1 := h x (hw x hx)
    by_cases hc : S.any (fun s => decide (cnt now s = 1) && decide (x ∈ s)) = true
    · obtain ⟨s, hs, h2⟩ := List.any_eq_true.1 hc
      simp at h2
      exact ⟨s, hs, h2.1, h2.2⟩
    · rw [if_pos ⟨hx, by simp, hc⟩] at h1; cases h1
  · intro h x _
    rw [if_neg]
    rintro ⟨hx, _, hc⟩
    obtain ⟨s, hs, h2, h3⟩ := h x hx
    exact hc (List.any_eq_true.2 ⟨s, hs, by simp [h2, h3]⟩)

set_option maxRecDepth 100000 in
set_option maxHeartbeats 4000000 in
theorem critical_any (K : FK) (w : World) (now : List Int) (fr : Int → Bool) (h : Fam K w now fr) (hw : ∀ x ∈ now, wfI x) (hn : now.length ≤ 1000000) :
    Calls Tryz.prog 74 #[K.p] w fun e w' => e = .returned (.bool (bOf (Crit K.S now))) ∧ Below w.heap.size w w' := by
  obtain ⟨hC, hS⟩ := h
  obtain ⟨A, c, hvs, hA⟩ := hC.set_cells
  obtain ⟨nv, hblk, hnow⟩ := hS.blk
  rw [hvs] at hblk
  obtain ⟨An, cn, hnf, _, _, hAn⟩ := (own_S1 (f := iV) hnow).form
  subst hnf
  have hal := hblk.lt
  have HBK := Lib.hid hblk
  have hfew := hC.few.1
  have HA := Lib.hid hA
  have HAN := Lib.hid hAn
  have HC := Lib.hid hC
  have HS := Lib.hid hS
  have HW := Lib.hid hw
  clear hA hC hS hvs hblk hnow hAn hw
  have a4 : w.cell? ⟨K.a, 4, none⟩ = some (.slice An now.length cn) := HBK.out.cell 4
  have hmm := @run_makeMap Tryz.prog
  go_enter Tryz.func74, Tryz.ntmps74
  go_wp2_with fail
  go_loopw [16] (fun i wr => ∃ k : Nat, k ≤ now.length ∧ i = .int .i64 k ∧ Hid (MapF wr K3 w.heap.size k (setF (now.take k))) ∧ Below w.heap.size w wr) (fun i _ => now.length - (intOf i).toNat)
  case atStart => exact ⟨0, Nat.zero_le _, rfl, Lib.hid (by have := MapF.made w K3; exact this.congr fun x _ => by unfold setF; rw [if_neg (by simp)]), (Below.refl _ _).alloc (Nat.le_refl _) _⟩
  case round =>
    obtain ⟨k, hk, rfl, HM, hB⟩ := hrel
    by_cases hlt : k < now.length
    · obtain ⟨b1, o1, rfl, hb1, hc1⟩ := HAN.out (by omega)
      obtain ⟨x, hx⟩ := get_some hlt
      have d1 := (hB.cell (p := ⟨b1, o1 + k, none⟩) hb1).trans (hc1 k x hx)
      have hwx := Lib.hid (HW.out x (List.mem_of_getElem? hx))
      have HX := Lib.hid hx
      clear hc1 hx
      go_wp2_with (at_mapUpdate; refine wpList_put _ rfl _ _ _ 68 rfl 4 K3 Tryz.underlying68 w.heap.size k _ rfl HM.out ?c1 x hwx.out (.bool true) rfl rfl ?_)
      case c1 => unfold maxLen; omega
      intro w1 hm1 hg1
      rw [setF_snoc, ← take_snoc HX.out] at hm1
      have HM1 := Lib.hid hm1
      have hB1 := grown_below hB hg1 (fun k e => by cases e; exact Nat.le_refl _)
      clear hm1 hg1
      go_wp2_with fail
      go_roundw
      case rel => exact ⟨k + 1, by omega, by go_num, HM1, hB1⟩
      case measure => simp [intOf]; omega
    · obtain rfl : k = now.length := by omega
      have HM2 : Hid (MapF wr K3 w.heap.size now.length (needF K.S now 0 [])) := Lib.hid (by have := HM.out; rw [List.take_length] at this; rw [needF_setF]; exact this)
      clear HM hlt hk
      have a0 : wr.cell? ⟨K.a, 0, none⟩ = some (.slice A K.S.length c) := (hB.cell hal).trans (HBK.out.cell 0)
      obtain ⟨wo, rfl⟩ : ∃ wo : World, wo = wr := ⟨_, rfl⟩
      go_wp2_with fail
      go_loopw [28] (fun i wr => ∃ k : Nat, k ≤ K.S.length ∧ i = .int .i64 k ∧ Hid (MapF wr K3 w.heap.size now.length (needF K.S now k [])) ∧ Below w.heap.size w wr) (fun i _ => K.S.length - (intOf i).toNat)
      case atStart => exact ⟨0, Nat.zero_le _, rfl, HM2, hB⟩
      case round =>
        clear HM2 hB a0
        obtain ⟨k, hk, rfl, HM, hB⟩ := hrel
        by_cases hlt : k < K.S.length
        · obtain ⟨b1, o1, rfl, hb1, hcell⟩ := HA.out (by omega)
          obtain ⟨s, hs⟩ := get_some hlt
          obtain ⟨u, d0, hu⟩ := hcell k s hs
          obtain ⟨Au, cu, rfl⟩ := SI.slice_form hu
          have d1 := (hB.cell (p := ⟨K.hb, k, none⟩) (World.block_lt_of_cell? w ⟨K.hb, k, none⟩ (HS.out.hit_cell hs))).trans (HS.out.hit_cell hs)
          have d3 := (hB.cell (p := ⟨b1, o1 + k, none⟩) hb1).trans d0
          have a2 : wr.cell? ⟨K.a, 2, none⟩ = some K.hv := (hB.cell hal).trans (HBK.out.cell 2)
          have HSS := Lib.hid hs
          obtain ⟨_, _, hfu, _, _, hAu⟩ := hu.form
          obtain ⟨rfl, rfl⟩ : _ = Au ∧ _ = cu := by injection hfu with h1 h2 h3; exact ⟨h1.symm, h3.symm⟩
          have HU := Lib.hid hAu
          have gl := hu.len_le
          unfold maxLen at gl
          have HEL : Hid (∀ x ∈ s, wfI x) := Lib.hid fun x hx => (HC.out.elem_wf (List.mem_flatten.2 ⟨s, List.mem_of_getElem? hs, hx⟩)).1
          clear hcell hs hu hfu hAu d0
          have q1 : (0 : Int) ≤ (k : Int) := by omega
          have q2 : (k : Int) < (K.S.length : Int) := by omega
          by_cases hc1 : cnt now s = 1
          · have e1 : ((cnt now s : Int) != 1) = false := by simp [hc1]
            have e1' : (cnt now s != 1) = false := by simp [hc1]
            have HC1 := Lib.hid hc1
            have HM0 : Hid (MapF wr K3 w.heap.size now.length (needF K.S now k (s.take 0))) := HM
            clear hc1 HM
            obtain ⟨wi, rfl⟩ : ∃ wi : World, wi = wr := ⟨_, rfl⟩
            go_wp2_with fail
            go_loopw [43] (fun i wr => ∃ j : Nat, j ≤ s.length ∧ i = .int .i64 j ∧ Hid (MapF wr K3 w.heap.size now.length (needF K.S now k (s.take j))) ∧ Below w.heap.size w wr) (fun i _ => s.length - (intOf i).toNat)
            case atStart => exact ⟨0, Nat.zero_le _, rfl, HM0, hB⟩
            case round =>
              clear HM0 hB d1 d3 a2
              obtain ⟨j, hj, rfl, HM, hB⟩ := hrel
              by_cases hjl : j < s.length
              · obtain ⟨b2, o2, rfl, hb2, hc2⟩ := HU.out (by omega)
                obtain ⟨x, hx⟩ := get_some hjl
                have d2 := (hB.cell (p := ⟨b2, o2 + j, none⟩) hb2).trans (hc2 j x hx)
                have hwx := Lib.hid (HEL.out x (List.mem_of_getElem? hx))
                have HX := Lib.hid (take_snoc hx)
                clear hc2 hx
                go_wp2_with (at_delete; refine wpList_del _ rfl _ _ 68 rfl 4 K3 Tryz.underlying68 w.heap.size now.length _ rfl HM.out x hwx.out rfl ?_)
                intro w1 hm1 hg1
                rw [needF_del, ← HX.out] at hm1
                have HM1 := Lib.hid hm1
                have hB1 := grown_below hB hg1 (fun k e => by cases e; exact Nat.le_refl _)
                clear hm1 hg1
                go_wp2_with fail
                go_roundw
                case rel => exact ⟨j + 1, by omega, by go_num, HM1, hB1⟩
                case measure => simp [intOf]; omega
              · obtain rfl : j = s.length := by omega
                go_wp2_with fail
                go_roundw
                case rel => exact ⟨k + 1, by omega, by go_num, Lib.hid (by have := HM.out; rw [List.take_length, needF_next HSS.out HC1.out] at this; exact this), hB⟩
                case measure => simp [intOf]; omega
          · have e1 : ((cnt now s : Int) != 1) = true := by simp; omega
            have HC1 := Lib.hid hc1
            clear hc1
            go_wp2_with fail
            go_roundw
            case rel => exact ⟨k + 1, by omega, by go_num, Lib.hid (by have := HM.out; rw [needF_skip HSS.out HC1.out] at this; exact this), hB⟩
            case measure => simp [intOf]; omega
        · obtain rfl : k = K.S.length := by omega
          obtain ⟨m, hrun, hm0, hmn⟩ := HM.out.len Tryz.underlying68 3
          have hiff : m = 0 ↔ Crit K.S now := hm0.trans (needF_none K.S now HW.out)
          by_cases hm : m = 0
          · have HV : Hid (bOf (Crit K.S now) = true) := Lib.hid (bOf_true (hiff.1 hm))
            subst hm
            clear hiff hm0
            go_wp2_with fail
            go_ret
            exact ⟨ret_bool (by rw [HV.out]), hB⟩
          · have HV : Hid (bOf (Crit K.S now) = false) := Lib.hid (bOf_false fun h => hm (hiff.2 h))
            have e1 : ((m : Int) == 0) = false := beq_eq_false_iff_ne.2 (by omega)
            have e1' : (m == 0) = false := beq_eq_false_iff_ne.2 hm
            clear hiff hm0
            go_wp2_with fail
            go_ret
            exact ⟨ret_bool (by rw [HV.out]), hB⟩
end Go.Proofs.YtbmdfnifbimfmaaGreatDoor
