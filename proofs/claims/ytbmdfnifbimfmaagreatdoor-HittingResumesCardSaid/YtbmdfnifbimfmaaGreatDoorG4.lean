/- The walk of search. -/
import Derived.Test.YtbmdfnifbimfmaaGreatDoorG3
namespace Go.Proofs.YtbmdfnifbimfmaaGreatDoor
open Go.RowKit Go.Shelf
attribute [local go_sem] Oper.semAt_some

theorem eg_values1 : ∀ args w, (callFunc 95 args).run Tryz.prog w = .ok (.enter 95 args) w := enters_of Tryz.func95 (by kernel_rfl) rfl

/-- What a call of search finds. -/
def SPre (K : FK) (J : JT) (now : List Int) (fr : Int → Bool) (pre : List (Value × List Int)) (W : World) : Prop :=
  now.Nodup ∧ now.length + unhit K.S now ≤ K.S.length ∧ (∀ x ∈ now, x ∈ K.S.flatten) ∧ Crit K.S now ∧ Fam K W now fr ∧ J pre W

theorem filter_snoc_true {fr : Int → Bool} {t : List Int} {x : Int} (h : fr x = true) : (t ++ [x]).filter (fun x => fr x) = t.filter (fun x => fr x) ++ [x] := by simp [List.filter_append, h]
theorem filter_snoc_false {fr : Int → Bool} {t : List Int} {x : Int} (h : fr x = false) : (t ++ [x]).filter (fun x => fr x) = t.filter (fun x => fr x) := by simp [List.filter_append, h]
def frT (fr : Int → Bool) (l : List Int) (k : Nat) (x : Int) : Bool := fr x && !(decide (x ∈ l.take k))
theorem frT_step {fr : Int → Bool} {l : List Int} {k : Nat} {x : Int} (hx : l[k]? = some x) : updB (frT fr l k) x false = frT fr l (k + 1) := by
  funext y
  unfold updB frT
  rw [take_snoc hx]
  by_cases h : y = x
  · simp [h]
  · simp [h]
theorem frT_zero (fr : Int → Bool) (l : List Int) : frT fr l 0 = fr := by funext y; simp [frT]
theorem frT_full (fr : Int → Bool) (l : List Int) : frT fr l l.length = frK fr l 0 := by funext y; simp [frT, frK]
theorem frK_full (fr : Int → Bool) (l : List Int) : frK fr l l.length = fr := by funext y; simp [frK]
theorem frK_step {fr : Int → Bool} {l : List Int} {k : Nat} {x : Int} (hx : l[k]? = some x) (hf : fr x = true) (hl : l.Nodup) : updB (frK fr l k) x true = frK fr l (k + 1) := by
  funext y
  unfold updB frK
  rw [drop_cons hx]
  have hxd : x ∉ l.drop (k + 1) := by
    have : (l.drop k).Nodup := hl.sublist (List.drop_sublist k l)
    rw [drop_cons hx] at this
    exact (List.nodup_cons.1 this).1
  by_cases h : y = x
  · subst h; simp [hf, hxd]
  · simp [h]

set_option maxRecDepth 100000 in
set_option maxHeartbeats 8000000 in
theorem search_step (K : FK) (lp m0 : Nat) (J Jx : JT) (hJ : JIt K J) (hJx : JIt K Jx) (hY : YieldOk K m0 lp J Jx) (now : List Int) (fr : Int → Bool) (pre : List (Value × List Int)) (W : World) (h : SPre K J now fr pre W)
    (ih : ∀ now' fr' pre' W', unhit K.S now' < unhit K.S now → SPre K J now' fr' pre' W' → Calls Tryz.prog 52 #[K.p, .func (.yield lp) #[] #[]] W' (SearchPost K W' now' fr' pre' J Jx)) :
    Calls Tryz.prog 52 #[K.p, .func (.yield lp) #[] #[]] W (SearchPost K W now fr pre J Jx) := by
  refine (callsIn_wide (n := 3)).1 ?_
  obtain ⟨hnd, hlen, hin, hcrit, hF, hJ0⟩ := h
  have hfew := hF.1.few.1
  have hfl := hF.1.few.2
  obtain ⟨A, c, hvs, hA⟩ := hF.1.set_cells
  obtain ⟨nv, hnv, hblk, hnow⟩ := hF.2.nowB
  obtain ⟨An, cn, hnf⟩ := own_form hnow
  subst hnf
  rw [hvs] at hblk
  have a0 : W.cell? ⟨K.a, 0, none⟩ = some (.slice A K.S.length c) := hblk.cell 0
  have a3 : W.cell? ⟨K.a, 3, none⟩ = some (.map (some K.mf)) := hblk.cell 3
  have a4 : W.cell? ⟨K.a, 4, none⟩ = some (.slice An now.length cn) := hblk.cell 4
  have hal := hblk.lt
  have HBK := Lib.hid hblk
  have HNOW := Lib.hid hnow
  have HND := Lib.hid hnd
  have HIN := Lib.hid hin
  have HCR := Lib.hid hcrit
  have HF := Lib.hid hF
  have HJ0 := Lib.hid hJ0
  have HJ := Lib.hid hJ
  have HJX := Lib.hid hJx
  have HY := Lib.hid (yield_any (m' := 2) hY)
  have HIH := Lib.hid ih
  have HA := Lib.hid hA
  have HNL : Hid (unhit K.S now ≤ K.S.length) := Lib.hid (unhit_le _ _)
  obtain ⟨i0, hi, hz0, hz1, hz2⟩ := info_parts info3
  clear hnd hin hcrit hF hJ0 hJ hJx hY ih hA hblk hnow hvs
  refine callsIn_of_wp Tryz.func52 rfl trivial ?_ rfl
  simp only [Tryz.ntmps52, List.size_toArray, List.length_cons, List.length_nil, Nat.reduceAdd, Nat.reduceSub, Array.replicate_succ, Array.replicate_zero, List.push_toArray, List.append_toArray, List.nil_append, List.cons_append]
  gi_wp2_with fail
  refine ⟨trivial, ((callsIn_wide).2 (choose_any K W now fr HF.out)).mono ?_⟩
  rintro e w1 ⟨rfl, ⟨rfl, hall⟩ | ⟨j, s, rfl, hs, hc0⟩⟩
  · have HALL := Lib.hid hall
    clear hall
    gi_wp2_with fail
    refine ⟨trivial, ((callsIn_wide).2 (values_any An now.length cn W)).mono ?_⟩
    rintro e w2 ⟨rfl, rfl⟩
    obtain ⟨bb, hbb, hseq⟩ := values_seq W.heap.size (.slice An now.length cn) now (W.alloc (.cells #[.slice An now.length cn] 23)) (by rw [cell_alloc_new]; rfl) (by simp) ((own_S1 HNOW.out).al _)
    have HSQ := Lib.hid hseq
    clear hseq
    gi_wp2_with fail
    refine ⟨trivial, ((callsIn_wide).2 (sorted_anyI 95 _ bb now _ eg_values1 HSQ.out hbb (by omega))).mono ?_⟩
    rintro e w3 ⟨u, rfl, hu, hB3⟩
    have hB4 : Below W.heap.size W w3 := bAfter ((Below.refl _ W).alloc (Nat.le_refl _) _) hB3
    have hF3 := HF.out.up hB4
    have hL3 : LRow K w3 u (sortI now) := LRow.of_new HF.out hF3.1 hB4 (ownsRow_base' hu (by simp))
    obtain ⟨A3, c3, hu3⟩ := own_form hu
    have hJ3 := HJ.out _ _ _ _ _ HJ0.out HF.out (FIt.up HF.out hB4)
    obtain ⟨fn, tmps, assign, body, hy, hR⟩ := HY.out pre u (sortI now) w3 now fr hJ3 hF3.1 hL3 (by rw [sortI_len]; omega)
    have HF3 := Lib.hid hF3.1
    have HLK : Hid (LKeep K W w3) := Lib.hid (FIt.up HF.out hB4).rows
    clear hB3 hB4 hF3 hL3 hJ3 hu HSQ
    subst hu3
    gi_wp2_with fail
    refine hR.mono ?_
    rintro e w4 ⟨hk4, hj4⟩
    have HF4 := Lib.hid (HF3.out.kp hk4).1
    have HLK4 := Lib.hid (HLK.out.trans (KpB.rows HF3.out hk4))
    rcases hj4 with ⟨rfl, hj4⟩ | ⟨rfl, hj4⟩
    · gi_wp2_with fail
      refine bodyPost_ret (results_tmp rfl _ _ _) rfl ?_
      exact ⟨true, [(_, sortI now)], rfl, HF4.out, HLK4.out, .inl ⟨rfl, leaf_outs HND.out HCR.out HALL.out, hj4⟩⟩
    · gi_wp2_with fail
      refine bodyPost_ret (results_tmp rfl _ _ _) rfl ?_
      exact ⟨false, [(_, sortI now)], rfl, HF4.out, HLK4.out, .inr ⟨rfl, (leaf_outs HND.out HCR.out HALL.out).part, hj4⟩⟩
  · obtain ⟨b1, o1, rfl, hb1, hcell⟩ := HA.out (by have := (List.getElem?_eq_some_iff.1 hs).1; omega)
    obtain ⟨us, d0, hus⟩ := hcell j s hs
    obtain ⟨Au, cu, rfl⟩ := SI.slice_form hus
    have hjl := (List.getElem?_eq_some_iff.1 hs).1
    have q1 : (0 : Int) ≤ (j : Int) := by omega
    have q2 : (j : Int) < (K.S.length : Int) := by omega
    have p1 : decide ((j : Int) < 0) = false := by simp
    have HS := Lib.hid hs
    have HC0 := Lib.hid hc0
    have HUS := Lib.hid hus
    have HSV : Hid (Valid s) := Lib.hid (HF.out.1.valid s (List.mem_of_getElem? hs))
    have hsl := valid_len HSV.out
    have HSF : Hid (∀ x ∈ s, x ∈ K.S.flatten) := Lib.hid fun x hx => List.mem_flatten.2 ⟨s, List.mem_of_getElem? hs, hx⟩
    clear hcell hs hc0 hus
    gi_wp2_with fail
    gi_loopw [6, 33] (fun lv i wr => ∃ k : Nat, k ≤ s.length ∧ i = .int .i64 k ∧ Hid (wr.ownsRow W.heap.size 3 1 lv ((s.take k).filter fun x => fr x).length (((s.take k).filter fun x => fr x).map iV)) ∧ Below W.heap.size W wr) (fun _ i _ => s.length - (intOf i).toNat)
    case atStart => exact ⟨0, Nat.zero_le _, rfl, Lib.hid (World.ownsRow_nil _ _ _ _), Below.refl _ _⟩
    case round =>
      obtain ⟨k, hk, rfl, HR, hB⟩ := hrel
      by_cases hlt : k < s.length
      · obtain ⟨x, hx⟩ := get_some hlt
        obtain ⟨_, _, hfu, _, _, hAu⟩ := HUS.out.form
        obtain ⟨rfl, rfl⟩ : _ = Au ∧ _ = cu := by injection hfu with h1 h2 h3; exact ⟨h1.symm, h3.symm⟩
        obtain ⟨b2, o2, rfl, hb2, hc2⟩ := hAu (by omega)
        have d2 := (hB.cell (p := ⟨b2, o2 + k, none⟩) hb2).trans (hc2 k x hx)
        have d3 : wr.cell? ⟨K.a, 3, none⟩ = some (.map (some K.mf)) := (hB.cell (p := ⟨K.a, 3, none⟩) hal).trans a3
        have hxf := HSF.out x (List.mem_of_getElem? hx)
        have hxw := (HF.out.1.elem_wf hxf).1
        have HX := Lib.hid (take_snoc hx)
        have hil : ((s.take k).filter fun x => fr x).length ≤ 1024 := by
          have := List.length_filter_le (fun x => fr x) (s.take k)
          rw [List.length_take] at this
          omega
        obtain ⟨A5, c5, hf5⟩ := own_form HR.out
        subst hf5
        cases hf : fr x with
        | true =>
          have hlk := (HF.out.up hB).1.2.free_look hxf hxw hf
          have HFX := Lib.hid hf
          clear hf hxf hxw hfu hAu hc2 hx
          gi_wp2_with (gi_at_builtin; refine wpListIn_append_own _ rfl _ _ 23 rfl W.heap.size 3 i0 (.int .i64 0) 1 8 Tryz.underlying23 hi hz0 hz1 hz2 rfl (by decide) _ _ _ rfl (HR.out.alloc _) ⟨wr.heap.size, 0, none⟩ 1 1 [.int .i64 x] rfl rfl ?c1 ?c2 ?c3 ?c4 ?c5 ?_)
          case c1 => exact new1 _ _ rfl _ _
          case c2 => intro y hy; rw [List.mem_singleton.1 hy]; rfl
          case c3 => simp only [maxLen]; omega
          case c4 => omega
          case c5 => have := hB.size; simp; omega
          intro v' w1 hown' hgrow _
          have hB' : Below W.heap.size W w1 := (bAl hB _).grown hgrow (by have := hB.size; simp; omega) (fun k e => by exact (HR.out.lt k e).1)
          have HR' : Hid (w1.ownsRow W.heap.size 3 1 v' ((s.take (k + 1)).filter fun x => fr x).length (((s.take (k + 1)).filter fun x => fr x).map iV)) := Lib.hid (by
            rw [HX.out, filter_snoc_true HFX.out]
            simpa using hown')
          clear hown' hgrow
          gi_wp2_with fail
          go_roundw
          case rel => exact ⟨k + 1, by omega, by simp, HR', hB'⟩
          case measure => simp [intOf]; omega
        | false =>
          have hlk := (HF.out.up hB).1.2.free_look hxf hxw hf
          have HR' : Hid (wr.ownsRow W.heap.size 3 1 (.slice A5 ((s.take k).filter fun x => fr x).length c5) ((s.take (k + 1)).filter fun x => fr x).length (((s.take (k + 1)).filter fun x => fr x).map iV)) := Lib.hid (by
            rw [HX.out, filter_snoc_false hf]
            exact HR.out)
          clear hf hxf hxw hfu hAu hc2 hx
          gi_wp2_with fail
          go_roundw
          case rel => exact ⟨k + 1, by omega, by simp, HR', hB⟩
          case measure => simp [intOf]; omega
      · obtain rfl : k = s.length := by omega
        obtain ⟨l, hl⟩ : ∃ l, (s.filter fun x => fr x) = l := ⟨_, rfl⟩
        have hR := HR.out
        rw [List.take_length, hl] at hR
        have hF1 := HF.out.up hB
        have HLR : Hid (LRow K wr u6 l) := Lib.hid (LRow.of_new HF.out hF1.1 hB hR)
        have HL := Lib.hid hl.symm
        have hll : l.length ≤ 1024 := by
          have := List.length_filter_le (fun x => fr x) s
          rw [hl] at this; omega
        have HLM : Hid (∀ y ∈ l, y ∈ s ∧ fr y = true) := Lib.hid fun y hy => by rw [← hl, List.mem_filter] at hy; exact hy
        have HLN : Hid l.Nodup := Lib.hid (by rw [← hl]; exact List.Pairwise.filter _ (inc_nodup HSV.out.2))
        have HLF : Hid (∀ y ∈ l, fr y = true ∧ y ∉ now) := Lib.hid fun y hy => ⟨(HLM.out y hy).2, fun h => cnt_zero.1 HC0.out y h (HLM.out y hy).1⟩
        obtain ⟨A5, c5, hf5⟩ := own_form hR
        subst hf5
        have HF1 := Lib.hid hF1.1
        have HI1 := Lib.hid (FIt.up HF.out hB)
        clear hR hF1 HR hl d0
        gi_wp2_with fail
        gi_loopw [50] (fun i wr => ∃ k : Nat, k ≤ l.length ∧ i = .int .i64 k ∧ Hid (Fam K wr now (frT fr l k)) ∧ Hid (LRow K wr (.slice A5 l.length c5) l) ∧ Hid (FIt K W wr)) (fun i _ => l.length - (intOf i).toNat)
        case atStart => exact ⟨0, Nat.zero_le _, rfl, Lib.hid (by rw [frT_zero]; exact HF1.out), HLR, HI1⟩
        case round =>
          clear HF1 HI1 HLR hB
          obtain ⟨k, hk, rfl, HF1, HLR, HI1⟩ := hrel
          have HFL : Hid (K.S.flatten.length < maxLen) := Lib.hid (by simp only [maxLen]; omega)
          obtain ⟨nv1, _, hblk1, _⟩ := HF1.out.2.nowB
          have e3 : wr.cell? ⟨K.a, 3, none⟩ = some (.map (some K.mf)) := hblk1.cell 3
          clear hblk1
          by_cases hlt : k < l.length
          · obtain ⟨x, hx⟩ := get_some hlt
            obtain ⟨_, _, hfu, _, _, hAu⟩ := HLR.out.si.form
            obtain ⟨rfl, rfl⟩ : _ = A5 ∧ _ = c5 := by injection hfu with h1 h2 h3; exact ⟨h1.symm, h3.symm⟩
            obtain ⟨b2, o2, rfl, hb2, hc2⟩ := hAu (by omega)
            have d2 := hc2 k x hx
            have hxf := HSF.out x (HLM.out x (List.mem_of_getElem? hx)).1
            have hxw := (HF.out.1.elem_wf hxf).1
            obtain ⟨w5, hr5, hm5, hg5⟩ := HF1.out.2.free.put Tryz.underlying68 HFL.out hxw (.bool false)
            have hr6 : (Instr.mapUpdate 68 (.map (some K.mf)) (.int .i64 x) (.bool false)).run Tryz.prog wr = .ok () w5 := hr5
            obtain ⟨hF5, hI5⟩ := HF1.out.setFree hxf hm5 hg5
            rw [frT_step hx] at hF5
            have HF5 := Lib.hid hF5
            have HI5 := Lib.hid (HI1.out.trans hI5)
            have HLR5 := Lib.hid (hI5.rows _ _ HLR.out)
            clear hfu hAu hc2 hx hxf hxw hr5 hm5 hg5 hF5 hI5
            gi_wp2_with fail
            go_roundw
            case rel => exact ⟨k + 1, by omega, by simp, HF5, HLR5, HI5⟩
            case measure => simp [intOf]; omega
          · obtain rfl : k = l.length := by omega
            have HF2 : Hid (Fam K wr now (frK fr l 0)) := Lib.hid (by rw [← frT_full]; exact HF1.out)
            have HLS2 : Hid (LoopS K now fr l 0 pre J Jx true wr) := Lib.hid ⟨[], .inl ⟨rfl, outsK_zero l, by rw [List.append_nil]; exact HJ.out _ _ _ _ _ HJ0.out HF.out HI1.out⟩⟩
            have HLK2 := Lib.hid HI1.out.rows
            clear HF1 HI1
            gi_wp2_with fail
            gi_loopw [4, 62] (fun mv i wr => ∃ (k : Nat) (b : Bool), k ≤ l.length ∧ i = .int .i64 k ∧ mv = .bool b ∧ Hid (Fam K wr now (frK fr l k)) ∧ Hid (LRow K wr (.slice A5 l.length c5) l) ∧ Hid (LKeep K W wr) ∧ Hid (LoopS K now fr l k pre J Jx b wr)) (fun _ i _ => l.length - (intOf i).toNat)
            case atStart => exact ⟨0, true, Nat.zero_le _, rfl, rfl, HF2, HLR, HLK2, HLS2⟩
            case round =>
              clear HF2 HLR HLK2 HLS2 e3
              obtain ⟨k, b, hk, rfl, rfl, HF2, HLR, HLK2, HLS2⟩ := hrel
              by_cases hlt : k < l.length
              · obtain ⟨x, hx⟩ := get_some hlt
                obtain ⟨A6, c6, hfu, _, _, hAu⟩ := HLR.out.si.form
                obtain ⟨hA6, rfl⟩ : A6 = A5 ∧ c5 = c6 := by injection hfu with h1 h2 h3; exact ⟨h1.symm, h3⟩
                subst hA6
                obtain ⟨b2, o2, rfl, hb2, hc2⟩ := hAu (by omega)
                have d2 := hc2 k x hx
                have HX := Lib.hid hx
                have hxs := HLM.out x (List.mem_of_getElem? hx)
                have HXF : Hid (x ∈ K.S.flatten) := Lib.hid (HSF.out x hxs.1)
                have HXW : Hid (wfI x) := Lib.hid (HF.out.1.elem_wf HXF.out).1
                have HUP : Hid (updB (frK fr l k) x true = frK fr l (k + 1)) := Lib.hid (frK_step hx hxs.2 HLN.out)
                have hnl : now.length ≤ 100000 := by omega
                have HNX : Hid ((now ++ [x]).Nodup) := Lib.hid (List.nodup_append.2 ⟨HND.out, by simp, fun a ha b hb e => by
                  rw [List.mem_singleton.1 hb] at e
                  subst e
                  exact (HLF.out a (List.mem_of_getElem? hx)).2 ha⟩)
                have HUN : Hid (unhit K.S (now ++ [x]) < unhit K.S now) := Lib.hid (unhit_step (List.mem_of_getElem? HS.out) HC0.out hxs.1)
                clear hfu hAu hc2 hx hxs
                gi_wp2_with fail
                refine ⟨trivial, ((callsIn_wide).2 (add_up K wr now (frK fr l k) x HF2.out HXF.out hnl)).mono ?_⟩
                rintro e w2 ⟨rfl, hF3, hI3⟩
                have HF3 := Lib.hid hF3
                have HLS2' := Lib.hid (HLS2.out.it HJ.out HJX.out HF2.out hI3)
                have HLK2' := Lib.hid (HLK2.out.trans hI3.rows)
                have HLR' := Lib.hid (hI3.rows _ _ HLR.out)
                clear hF3 hI3 HF2 HLS2 HLK2 HLR d2
                rename Hid (LRow K w2 _ l) => HLR
                cases b with
                | false =>
                  have hFX3 := HF3.out
                  have hLK3 : LKeep K w2 w2 := LKeep.refl _ _
                  have hLS3 : LoopS K now fr l (k + 1) pre J Jx false w2 := by
                    obtain ⟨ys, h1 | h1⟩ := HLS2'.out
                    · cases h1.1
                    · exact ⟨ys, .inr h1⟩
                  clear HF3 HLS2'
                  have HFX3 := Lib.hid (hFX3)
                  have HLS3 := Lib.hid (hLS3)
                  have HLK3 := Lib.hid (HLK2'.out.trans hLK3)
                  have HLR3 := Lib.hid (hLK3 _ _ HLR.out)
                  clear hFX3 hLS3 hLK3
                  gi_wp2_with fail
                  (refine ⟨trivial, ?_⟩; gi_wp2_with fail)
                  refine ⟨trivial, ((callsIn_wide).2 (add_down K _ now (frK fr l k) x HFX3.out HXF.out hnl)).mono ?_⟩
                  rintro e w4 ⟨rfl, hF4, hI4⟩
                  have HLS4 := Lib.hid (HLS3.out.it HJ.out HJX.out HFX3.out hI4)
                  have HLK4 := Lib.hid (HLK3.out.trans hI4.rows)
                  have HLR4 := Lib.hid (hI4.rows _ _ HLR3.out)
                  have HF4 := Lib.hid hF4
                  obtain ⟨nv4, _, hblk4, _⟩ := hF4.2.nowB
                  have g3 : w4.cell? ⟨K.a, 3, none⟩ = some (.map (some K.mf)) := hblk4.cell 3
                  obtain ⟨w5, hr5, hm5, hg5⟩ := HF4.out.2.free.put Tryz.underlying68 HFL.out HXW.out (.bool true)
                  have hr6 : (Instr.mapUpdate 68 (.map (some K.mf)) (.int .i64 x) (.bool true)).run Tryz.prog w4 = .ok () w5 := hr5
                  obtain ⟨hF5, hI5⟩ := HF4.out.setFree HXF.out hm5 hg5
                  rw [HUP.out] at hF5
                  have HF5 := Lib.hid hF5
                  have HLS5 := Lib.hid (HLS4.out.it HJ.out HJX.out HF4.out hI5)
                  have HLK5 := Lib.hid (HLK4.out.trans hI5.rows)
                  have HLR5 := Lib.hid (hI5.rows _ _ HLR4.out)
                  clear hF4 hI4 hblk4 hr5 hm5 hg5 hF5 hI5
                  gi_wp2_with fail
                  go_roundw
                  case rel => exact ⟨k + 1, _, by omega, by simp, rfl, HF5, HLR5, HLK5, HLS5⟩
                  case measure => simp [intOf]; omega
                | true =>
                  gi_wp2_with fail
                  refine ⟨trivial, ((callsIn_wide).2 (critical_any K w2 (now ++ [x]) (frK fr l k) HF3.out (fun y hy => ?hw) ?hl)).mono ?_⟩
                  case hw =>
                    rcases List.mem_append.1 hy with hy | hy
                    · exact (HF.out.1.elem_wf (HIN.out y hy)).1
                    · rw [List.mem_singleton.1 hy]; exact HXW.out
                  case hl => simp; omega
                  rintro e w3 ⟨rfl, hB3⟩
                  have hF4 := HF3.out.up hB3
                  have hI4 := FIt.up HF3.out hB3
                  cases hcr : bOf (Crit K.S (now ++ [x])) with
                  | false =>
                    have hFX3 := hF4.1
                    have hLK3 : LKeep K w2 w3 := hI4.rows
                    have hLS3 : LoopS K now fr l (k + 1) pre J Jx true w3 := by
                      obtain ⟨ys, h1 | h1⟩ := HLS2'.out.it HJ.out HJX.out HF3.out hI4
                      · refine ⟨ys, .inl ⟨rfl, ?_, h1.2.2⟩⟩
                        have := outsK_step HX.out HLN.out HLF.out h1.2.1 (outs_none (fr' := frK fr l k) HNX.out (bOf_false_iff.1 hcr))
                        simpa using this
                      · cases h1.1
                    clear HF3 HLS2' hF4 hI4 hB3 hcr
                    have HFX3 := Lib.hid (hFX3)
                    have HLS3 := Lib.hid (hLS3)
                    have HLK3 := Lib.hid (HLK2'.out.trans hLK3)
                    have HLR3 := Lib.hid (hLK3 _ _ HLR.out)
                    clear hFX3 hLS3 hLK3
                    gi_wp2_with fail
                    skip
                    refine ⟨trivial, ((callsIn_wide).2 (add_down K _ now (frK fr l k) x HFX3.out HXF.out hnl)).mono ?_⟩
                    rintro e w4 ⟨rfl, hF4, hI4⟩
                    have HLS4 := Lib.hid (HLS3.out.it HJ.out HJX.out HFX3.out hI4)
                    have HLK4 := Lib.hid (HLK3.out.trans hI4.rows)
                    have HLR4 := Lib.hid (hI4.rows _ _ HLR3.out)
                    have HF4 := Lib.hid hF4
                    obtain ⟨nv4, _, hblk4, _⟩ := hF4.2.nowB
                    have g3 : w4.cell? ⟨K.a, 3, none⟩ = some (.map (some K.mf)) := hblk4.cell 3
                    obtain ⟨w5, hr5, hm5, hg5⟩ := HF4.out.2.free.put Tryz.underlying68 HFL.out HXW.out (.bool true)
                    have hr6 : (Instr.mapUpdate 68 (.map (some K.mf)) (.int .i64 x) (.bool true)).run Tryz.prog w4 = .ok () w5 := hr5
                    obtain ⟨hF5, hI5⟩ := HF4.out.setFree HXF.out hm5 hg5
                    rw [HUP.out] at hF5
                    have HF5 := Lib.hid hF5
                    have HLS5 := Lib.hid (HLS4.out.it HJ.out HJX.out HF4.out hI5)
                    have HLK5 := Lib.hid (HLK4.out.trans hI5.rows)
                    have HLR5 := Lib.hid (hI5.rows _ _ HLR4.out)
                    clear hF4 hI4 hblk4 hr5 hm5 hg5 hF5 hI5
                    gi_wp2_with fail
                    go_roundw
                    case rel => exact ⟨k + 1, _, by omega, by simp, rfl, HF5, HLR5, HLK5, HLS5⟩
                    case measure => simp [intOf]; omega
                  | true =>
                    obtain ⟨ys, hys⟩ : ∃ ys : List (Value × List Int), OutsK K.S now fr l k (ys.map (·.2)) ∧ J (pre ++ ys) w3 := by
                      obtain ⟨ys, h1 | h1⟩ := HLS2'.out.it HJ.out HJX.out HF3.out hI4
                      · exact ⟨ys, h1.2⟩
                      · cases h1.1
                    have HSP : Hid (SPre K J (now ++ [x]) (frK fr l k) (pre ++ ys) w3) := Lib.hid ⟨HNX.out, by have := HUN.out; simp; omega, fun y hy => by
                      rcases List.mem_append.1 hy with hy | hy
                      · exact HIN.out y hy
                      · rw [List.mem_singleton.1 hy]; exact HXF.out, bOf_iff.1 hcr, hF4.1, hys.2⟩
                    have HOK := Lib.hid hys.1
                    have HI4 := Lib.hid hI4
                    clear hys hF4 hI4 hB3 hcr HF3 HLS2'
                    gi_wp2_with fail
                    refine ⟨trivial, ((callsIn_wide).2 (HIH.out _ _ _ _ HUN.out HSP.out)).mono ?_⟩
                    rintro e w4 ⟨b4, zs, rfl, hFX3, hLK4, hz⟩
                    have hLK3 : LKeep K w2 w4 := HI4.out.rows.trans hLK4
                    have hLS3 : LoopS K now fr l (k + 1) pre J Jx b4 w4 := by
                      rcases hz with ⟨rfl, h1, h2⟩ | ⟨rfl, h1, h2⟩
                      · refine ⟨ys ++ zs, .inl ⟨rfl, ?_, by rw [← List.append_assoc]; exact h2⟩⟩
                        rw [List.map_append]
                        exact outsK_step HX.out HLN.out HLF.out HOK.out h1
                      · refine ⟨ys ++ zs, .inr ⟨rfl, ?_, by rw [← List.append_assoc]; exact h2⟩⟩
                        rw [List.map_append]
                        exact part_step HX.out HLN.out HLF.out HOK.out h1
                    clear hLK4 hz HI4 HSP HOK
                    have HFX3 := Lib.hid (hFX3)
                    have HLS3 := Lib.hid (hLS3)
                    have HLK3 := Lib.hid (HLK2'.out.trans hLK3)
                    have HLR3 := Lib.hid (hLK3 _ _ HLR.out)
                    clear hFX3 hLS3 hLK3
                    gi_wp2_with fail
                    skip
                    refine ⟨trivial, ((callsIn_wide).2 (add_down K _ now (frK fr l k) x HFX3.out HXF.out hnl)).mono ?_⟩
                    rintro e w4 ⟨rfl, hF4, hI4⟩
                    have HLS4 := Lib.hid (HLS3.out.it HJ.out HJX.out HFX3.out hI4)
                    have HLK4 := Lib.hid (HLK3.out.trans hI4.rows)
                    have HLR4 := Lib.hid (hI4.rows _ _ HLR3.out)
                    have HF4 := Lib.hid hF4
                    obtain ⟨nv4, _, hblk4, _⟩ := hF4.2.nowB
                    have g3 : w4.cell? ⟨K.a, 3, none⟩ = some (.map (some K.mf)) := hblk4.cell 3
                    obtain ⟨w5, hr5, hm5, hg5⟩ := HF4.out.2.free.put Tryz.underlying68 HFL.out HXW.out (.bool true)
                    have hr6 : (Instr.mapUpdate 68 (.map (some K.mf)) (.int .i64 x) (.bool true)).run Tryz.prog w4 = .ok () w5 := hr5
                    obtain ⟨hF5, hI5⟩ := HF4.out.setFree HXF.out hm5 hg5
                    rw [HUP.out] at hF5
                    have HF5 := Lib.hid hF5
                    have HLS5 := Lib.hid (HLS4.out.it HJ.out HJX.out HF4.out hI5)
                    have HLK5 := Lib.hid (HLK4.out.trans hI5.rows)
                    have HLR5 := Lib.hid (hI5.rows _ _ HLR4.out)
                    clear hF4 hI4 hblk4 hr5 hm5 hg5 hF5 hI5
                    gi_wp2_with fail
                    go_roundw
                    case rel => exact ⟨k + 1, _, by omega, by simp, rfl, HF5, HLR5, HLK5, HLS5⟩
                    case measure => simp [intOf]; omega
              · obtain rfl : k = l.length := by omega
                gi_wp2_with fail
                refine bodyPost_ret (results_tmp rfl _ _ _) rfl ?_
                have hFF := HF2.out
                rw [frK_full] at hFF
                obtain ⟨ys, h1 | h1⟩ := HLS2.out
                · exact ⟨b, ys, rfl, hFF, HLK2.out, .inl ⟨h1.1, outsK_full (List.mem_of_getElem? HS.out) HC0.out HL.out h1.2.1, h1.2.2⟩⟩
                · exact ⟨b, ys, rfl, hFF, HLK2.out, .inr h1⟩
end Go.Proofs.YtbmdfnifbimfmaaGreatDoor
