/- Walks: add. -/
import Derived.Test.YtbmdfnifbimfmaaGreatDoorF3
import Derived.Deep.DeepCutAuto
namespace Go.Proofs.YtbmdfnifbimfmaaGreatDoor
open Go.RowKit

def AddPost (K : FK) (w : World) (now : List Int) (fr : Int → Bool) (e : Ending) (w' : World) : Prop := e = .returned (.tuple #[]) ∧ Fam K w' now fr ∧ FIt K w w'

set_option maxRecDepth 100000 in
set_option maxHeartbeats 4000000 in
theorem add_up (K : FK) (w : World) (now : List Int) (fr : Int → Bool) (x : Int) (h : Fam K w now fr) (hx : x ∈ K.S.flatten) (hn : now.length ≤ 100000) :
    Calls Tryz.prog 73 #[K.p, .int .i64 x, .int .i64 1] w (AddPost K w (now ++ [x]) fr) := by
  obtain ⟨hC, hS⟩ := h
  obtain ⟨nv, hnv, hblk, hnow⟩ := hS.nowB
  obtain ⟨An, cn, hnf⟩ := own_form hnow
  obtain ⟨u, hlk, hsu, hhu⟩ := hC.with_look hx
  have hal := hblk.lt
  have a1 : w.cell? ⟨K.a, 1, none⟩ = some (.map (some K.mw)) := hblk.cell 1
  have a4 : w.cell? ⟨K.a, 4, none⟩ = some nv := hblk.cell 4
  have hfew := hC.few.1
  have HIL := Lib.hid (idxs_len K.S x)
  have HBK := Lib.hid hblk
  have HN := Lib.hid hnow
  have HC := Lib.hid hC
  have HS := Lib.hid hS
  have HL := Lib.hid hlk
  have HSU := Lib.hid (And.intro hsu hhu)
  have HNB := Lib.hid hnv
  clear hC hS hblk hnow hlk hsu hhu hnv
  obtain ⟨i0, hi, hz0, hz1, hz2⟩ := info_parts info3
  subst hnf
  go_enter Tryz.func73, Tryz.ntmps73
  go_wp2_with (at_builtin; refine wpList_append_own_at _ rfl _ _ 23 rfl K.base 3 i0 (.int .i64 0) 1 8 Tryz.underlying23 hi hz0 hz1 hz2 rfl (by decide) _ _ _ rfl (HN.out.alloc _) ⟨w.heap.size, 0, none⟩ 1 1 [.int .i64 x] rfl rfl ?c1 ?c2 ?c3 ?c4 ?c5 ?_)
  case c1 => exact new1 _ _ rfl _ _
  case c2 => intro y hy; rw [List.mem_singleton.1 hy]; rfl
  case c3 => simp only [maxLen]; omega
  case c4 => omega
  case c5 => have := HC.out.rng.2; simp; omega
  intro v1 w1 hown hgrow _ hat
  obtain ⟨A1, c1, hf1⟩ := own_form hown
  have hbig : ∀ k, k < w.heap.size → some k ≠ (Value.slice An now.length cn).ownBlock → w1.heap[k]? = w.heap[k]? := fun k hk hne => (hgrow.block k (by simp; omega) hne).trans (Below.heap_alloc w _ k hk)
  have hlow : ∀ k, k < K.base → some k ≠ (Value.slice An now.length cn).ownBlock := fun k hk e => by have := (HN.out.lt k e.symm).1; omega
  have hsz : w.heap.size + 1 ≤ w1.heap.size := by have := hgrow.size; simpa using this
  have hkk : ∀ k, k < K.base → w1.heap[k]? = w.heap[k]? := fun k hk => hbig k (Nat.lt_of_lt_of_le hk HC.out.rng.2) (hlow k hk)
  have b1 : Blk w1 K.a 71 #[K.vs, .map (some K.mw), K.hv, .map (some K.mf), .slice An now.length cn] := HBK.out.block (hkk _ HC.out.ra.2)
  have c1' : FamC K w1 := HC.out.keep (by omega) fun k _ h2 _ _ _ => hkk k h2
  have d4 := b1.cell 4
  have f4 := b1.frozen 4
  have d1 : w1.cell? ⟨K.a, 1, none⟩ = some (.map (some K.mw)) := b1.cell 1
  have hAI : AddI K w fr 1 v1 u x [] now (now ++ [x]) (w1.setCell ⟨K.a, 4, none⟩ v1) := by
    have hne1 : ∀ g, v1.ownBlock = some g → g ≠ K.a := fun g hg => by have := (hown.lt g hg).1; have := HC.out.ra.2; omega
    refine AddI.start (c1'.setA 4 v1) ?_ ?_ ?_ ?_ ?_ ?_
    · have := b1.set_ 4 v1; simpa using this
    · have hx1 : w1.ownsRow K.base 3 1 v1 (now ++ [x]).length ((now ++ [x]).map iV) := by simpa using hown
      exact own_block hx1 fun g hg => heap_set_ne w1 _ v1 (hne1 g hg)
    · refine own_block HS.out.hits fun g hg => ?_
      cases hg
      exact (heap_set_ne w1 _ v1 (Ne.symm HC.out.ne.1)).trans (hkk _ HC.out.rh.2)
    · exact HS.out.free.block ((heap_set_ne w1 _ v1 (Ne.symm HC.out.ne.2.1)).trans (hkk _ HC.out.rf.2))
    · refine ⟨HSU.out.1.block (by rw [size_set]; omega) fun a n c e hn => ?_, HSU.out.2⟩
      obtain ⟨_, h2, h3, _⟩ := HSU.out.2
      exact (heap_set_ne w1 _ v1 (fun e' => h3 a n c e hn (by rw [e']))).trans (hkk _ (h2 a n c e hn))
    · have hn' : nowB K (w1.setCell ⟨K.a, 4, none⟩ v1) = v1.ownBlock := by
        unfold nowB
        have hb2 : Blk (w1.setCell ⟨K.a, 4, none⟩ v1) K.a 71 #[K.vs, .map (some K.mw), K.hv, .map (some K.mf), v1] := by have := b1.set_ 4 v1; simpa using this
        rw [hb2.cell 4]; rfl
      refine ⟨hgrow.os, hgrow.tape, hgrow.output, by rw [size_set]; omega, fun k hk hr hne => ?_, ?_⟩
      · have hka : k ≠ K.a := fun e => by have h1 := HC.out.ra; omega
        exact (heap_set_ne w1 _ v1 hka).trans (hbig k hk (by rw [← HNB.out]; exact hne))
      · rw [hn', HNB.out]
        rcases hat with hat | hat
        · exact .inl hat
        · exact .inr ⟨_, by simp, hat⟩
  have HAI := Lib.hid hAI
  subst hf1
  have HLW : ∀ W : World, W = w1.setCell ⟨K.a, 4, none⟩ (.slice A1 (now.length + 1) c1) → (Instr.lookup 69 (.map (some K.mw)) (.int .i64 x) false).run Tryz.prog W = .ok u W := fun W hW => by
    subst hW
    exact HL.out _ ((heap_set_ne w1 _ _ HC.out.rw_.2.1).trans (hkk _ HC.out.rw_.1.2))
  have hlw := HLW _ rfl
  obtain ⟨Au, cu, rfl⟩ := SI.slice_form HSU.out.1
  clear hAI HLW hown hgrow hat hbig hlow hkk b1 c1' hsz a1 a4
  go_wp2_with fail
  go_loopw [41] (fun i wr => ∃ j : Nat, j ≤ (idxs K.S x).length ∧ i = .int .i64 j ∧ Hid (AddI K w fr 1 (.slice A1 (now.length + 1) c1) (.slice Au (idxs K.S x).length cu) x ((idxs K.S x).take j) now (now ++ [x]) wr)) (fun i _ => (idxs K.S x).length - (intOf i).toNat)
  case atStart => exact ⟨0, Nat.zero_le _, rfl, HAI⟩
  case round =>
    clear d4 f4 d1 hlw HAI
    obtain ⟨j, hj, rfl, HR⟩ := hrel
    have hil := HIL.out
    by_cases hjl : j < (idxs K.S x).length
    · obtain ⟨v, hv⟩ := get_some hjl
      obtain ⟨i, rfl, hiS, hnt⟩ := idxs_get hv
      obtain ⟨s, hs⟩ := get_some hiS
      obtain ⟨_, _, hfu, _, _, hAu⟩ := HR.out.2.2.2.2.2.1.1.form
      obtain ⟨rfl, rfl⟩ : _ = Au ∧ _ = cu := by injection hfu with h1 h2 h3; exact ⟨h1.symm, h3.symm⟩
      obtain ⟨b1, o1, rfl, hb1, hcell⟩ := hAu (by omega)
      have d0 := hcell j _ hv
      obtain ⟨_, _, g2, _⟩ := HR.out.cells
      obtain ⟨g5, g6⟩ := HR.out.hit hs hnt
      have hcn := cnt_le now s
      have HV := Lib.hid (take_snoc hv)
      have HST := Lib.hid (HR.out.step hs hnt)
      have q1 : (0 : Int) ≤ (i : Int) := by omega
      have q2 : (i : Int) < (K.S.length : Int) := by omega
      clear hcell hfu hAu hv hnt hs
      go_wp2_with fail
      go_roundw
      case rel => exact ⟨j + 1, by omega, by go_num, Lib.hid (by rw [HV.out]; exact HST.out)⟩
      case measure => simp [intOf]; omega
    · obtain rfl : j = (idxs K.S x).length := by omega
      go_wp2_with fail
      go_end0
      obtain ⟨h1, h2, h3, h4, h5, h6, h7⟩ := HR.out
      rw [List.take_length, hitsP_up] at h4
      exact ⟨rfl, ⟨h1, ⟨⟨_, h2, h3⟩, h4, h5⟩⟩, h7⟩
theorem zI' : ∀ W, (sizeOf (Tryz.prog.elem 23)).run Tryz.prog W = .ok 1 W := fun W => by rw [show Tryz.prog.elem 23 = 3 from by kernel_rfl]; exact Tryz.sizeOf3 W
set_option maxRecDepth 100000 in
theorem uI' : Tryz.prog.underlying 23 = some (.slice (Tryz.prog.elem 23)) := by kernel_rfl

set_option maxRecDepth 100000 in
set_option maxHeartbeats 4000000 in
theorem add_down (K : FK) (w : World) (now : List Int) (fr : Int → Bool) (x : Int) (h : Fam K w (now ++ [x]) fr) (hx : x ∈ K.S.flatten) (hn : now.length ≤ 100000) :
    Calls Tryz.prog 73 #[K.p, .int .i64 x, .int .i64 (-1)] w (AddPost K w now fr) := by
  obtain ⟨hC, hS⟩ := h
  obtain ⟨nv, hnv, hblk, hnow⟩ := hS.nowB
  have hnow' : w.ownsRow K.base 3 1 nv (now.length + 1) (now.map iV ++ [iV x]) := by simpa using hnow
  obtain ⟨g, cn, hnf, hcap⟩ : ∃ g cn, nv = .slice (some ⟨g, 0, none⟩) (now.length + 1) cn ∧ now.length + 1 ≤ cn := by
    rcases hnow'.2 with ⟨_, h0⟩ | ⟨g, cap, _, hv, _, _, hle, _⟩
    · omega
    · exact ⟨g, cap, hv, hle⟩
  subst hnf
  have hshr := own_shrink hnow'
  obtain ⟨u, hlk, hsu, hhu⟩ := hC.with_look hx
  have hal := hblk.lt
  have a1 : w.cell? ⟨K.a, 1, none⟩ = some (.map (some K.mw)) := hblk.cell 1
  have a4 : w.cell? ⟨K.a, 4, none⟩ = some (.slice (some ⟨g, 0, none⟩) (now.length + 1) cn) := hblk.cell 4
  have f4 : w.frozen? ⟨K.a, 4, none⟩ = false := hblk.frozen 4
  have hrun : ∀ W, (Instr.slice 23 (.slice (some ⟨g, 0, none⟩) (now.length + 1) cn) none (some (.int .i64 now.length)) none).run Tryz.prog W = .ok (.slice (some ⟨g, 0, none⟩) now.length cn) W := fun W => by
    rw [run_slice_h W 23 _ _ _ uI' .i64 now.length (by omega) (by omega), zI']
    simp [Result.andThen, sliced, Addr.add]
  have wk : IntKind.i64.wrap (((now.length + 1 : Nat) : Int) - 1) = (now.length : Int) := by rw [IntWalk.i64_in _ (by omega)]; omega
  have hfew := hC.few.1
  have HIL := Lib.hid (idxs_len K.S x)
  have HBK := Lib.hid hblk
  have HN := Lib.hid hnow'
  have HSH := Lib.hid hshr
  have HC := Lib.hid hC
  have HS := Lib.hid hS
  have HL := Lib.hid hlk
  have HSU := Lib.hid (And.intro hsu hhu)
  have HNB := Lib.hid hnv
  clear hC hS hblk hnow hnow' hlk hsu hhu hnv hshr
  obtain ⟨v1, hv1⟩ : ∃ v1, v1 = Value.slice (some ⟨g, 0, none⟩) now.length cn := ⟨_, rfl⟩
  have hAI : AddI K w fr (-1) v1 u x [] (now ++ [x]) now (w.setCell ⟨K.a, 4, none⟩ v1) := by
    have hne1 : ∀ k, v1.ownBlock = some k → k ≠ K.a := fun k hk => by rw [hv1] at hk; have := (HSH.out.lt k hk).1; have := HC.out.ra.2; omega
    refine AddI.start (HC.out.setA 4 v1) ?_ ?_ ?_ ?_ ?_ ?_
    · have := HBK.out.set_ 4 v1; simpa using this
    · refine own_block (by rw [hv1]; simpa using HSH.out) fun k hk => heap_set_ne w _ v1 (hne1 k hk)
    · refine own_block HS.out.hits fun k hk => ?_
      cases hk
      exact heap_set_ne w _ v1 (Ne.symm HC.out.ne.1)
    · exact HS.out.free.block (heap_set_ne w _ v1 (Ne.symm HC.out.ne.2.1))
    · refine ⟨HSU.out.1.block (by rw [size_set]; exact Nat.le_refl _) fun a n c e hn => ?_, HSU.out.2⟩
      obtain ⟨_, h2, h3, _⟩ := HSU.out.2
      exact heap_set_ne w _ v1 (fun e' => h3 a n c e hn (by rw [e']))
    · have hn' : nowB K (w.setCell ⟨K.a, 4, none⟩ v1) = v1.ownBlock := by
        unfold nowB
        have hb2 : Blk (w.setCell ⟨K.a, 4, none⟩ v1) K.a 71 #[K.vs, .map (some K.mw), K.hv, .map (some K.mf), v1] := by have := HBK.out.set_ 4 v1; simpa using this
        rw [hb2.cell 4]; rfl
      refine ⟨rfl, rfl, rfl, by rw [size_set]; exact Nat.le_refl _, fun k hk hr _ => ?_, .inl ?_⟩
      · have hka : k ≠ K.a := fun e => by have h1 := HC.out.ra; omega
        exact heap_set_ne w _ v1 hka
      · rw [hn', HNB.out, hv1]; rfl
  have HAI := Lib.hid hAI
  have HLW : ∀ (W : World) (q : Nat), W = (w.setCell ⟨K.a, 4, none⟩ v1).drewN q → (Instr.lookup 69 (.map (some K.mw)) (.int .i64 x) false).run Tryz.prog W = .ok u W := fun W q hW => by
    subst hW
    exact HL.out _ (heap_set_ne w _ _ HC.out.rw_.2.1)
  subst hv1
  obtain ⟨Au, cu, rfl⟩ := SI.slice_form HSU.out.1
  have HLW' := Lib.hid HLW
  clear hAI HLW
  go_enter Tryz.func73, Tryz.ntmps73
  go_wp2_with fail
  have a4' : World.cell? { heap := w.heap, tape := w.tape, drawn := w.drawn + 1, os := w.os, output := w.output } ⟨K.a, 4, none⟩ = some (.slice (some ⟨g, 0, none⟩) (now.length + 1) cn) := a4
  have f4' : World.frozen? { heap := w.heap, tape := w.tape, drawn := w.drawn + 1, os := w.os, output := w.output } ⟨K.a, 4, none⟩ = false := f4
  have wk2 : IntKind.i64.wrap (now.length : Int) = (now.length : Int) := IntWalk.i64_in _ (by omega)
  have hb1 : Blk (w.setCell ⟨K.a, 4, none⟩ (.slice (some ⟨g, 0, none⟩) now.length cn)) K.a 71 #[K.vs, .map (some K.mw), K.hv, .map (some K.mf), .slice (some ⟨g, 0, none⟩) now.length cn] := by have := HBK.out.set_ 4 (.slice (some ⟨g, 0, none⟩) now.length cn); simpa using this
  have hb2 : Blk (w.setCell ⟨K.a, 4, none⟩ (.slice (some ⟨g, 0, none⟩) now.length cn)).drew K.a 71 #[K.vs, .map (some K.mw), K.hv, .map (some K.mf), .slice (some ⟨g, 0, none⟩) now.length cn] := hb1
  have e1 : (w.setCell ⟨K.a, 4, none⟩ (.slice (some ⟨g, 0, none⟩) now.length cn)).drew.cell? ⟨K.a, 1, none⟩ = some (.map (some K.mw)) := hb2.cell 1
  have hlw : (Instr.lookup 69 (.map (some K.mw)) (.int .i64 x) false).run Tryz.prog (w.setCell ⟨K.a, 4, none⟩ (.slice (some ⟨g, 0, none⟩) now.length cn)).drew = .ok _ _ := HLW'.out _ 1 rfl
  clear hb2 hb1
  go_still_tail 14, (by kernel_rfl)
  clear wk wk2
  go_upto_region 3 with (fail)
  clear a4 f4 a4' f4' a1 hrun
  go_wp2_with fail
  go_loopw [41] (fun i wr => ∃ j : Nat, j ≤ (idxs K.S x).length ∧ i = .int .i64 j ∧ Hid (AddI K w fr (-1) (.slice (some ⟨g, 0, none⟩) now.length cn) (.slice Au (idxs K.S x).length cu) x ((idxs K.S x).take j) (now ++ [x]) now wr)) (fun i _ => (idxs K.S x).length - (intOf i).toNat)
  case atStart => exact ⟨0, Nat.zero_le _, rfl, Lib.hid HAI.out.drew⟩
  case round =>
    clear e1 hlw HAI
    obtain ⟨j, hj, rfl, HR⟩ := hrel
    have hil := HIL.out
    by_cases hjl : j < (idxs K.S x).length
    · obtain ⟨v, hv⟩ := get_some hjl
      obtain ⟨i, rfl, hiS, hnt⟩ := idxs_get hv
      obtain ⟨s, hs⟩ := get_some hiS
      obtain ⟨_, _, hfu, _, _, hAu⟩ := HR.out.2.2.2.2.2.1.1.form
      obtain ⟨rfl, rfl⟩ : _ = Au ∧ _ = cu := by injection hfu with h1 h2 h3; exact ⟨h1.symm, h3.symm⟩
      obtain ⟨b1, o1, rfl, hb1, hcell⟩ := hAu (by omega)
      have d0 := hcell j _ hv
      obtain ⟨_, _, g2, _⟩ := HR.out.cells
      obtain ⟨g5, g6⟩ := HR.out.hit hs hnt
      have hcn := cnt_le (now ++ [x]) s
      rw [List.length_append, List.length_singleton] at hcn
      have HV := Lib.hid (take_snoc hv)
      have HST := Lib.hid (HR.out.step hs hnt)
      have q1 : (0 : Int) ≤ (i : Int) := by omega
      have q2 : (i : Int) < (K.S.length : Int) := by omega
      clear hcell hfu hAu hv hnt hs
      go_wp2_with fail
      go_roundw
      case rel => exact ⟨j + 1, by omega, by go_num, Lib.hid (by rw [HV.out]; exact HST.out)⟩
      case measure => simp [intOf]; omega
    · obtain rfl : j = (idxs K.S x).length := by omega
      go_wp2_with fail
      go_end0
      obtain ⟨h1, h2, h3, h4, h5, h6, h7⟩ := HR.out
      rw [List.take_length, hitsP_down] at h4
      exact ⟨rfl, ⟨h1, ⟨⟨_, h2, h3⟩, h4, h5⟩⟩, h7⟩
end Go.Proofs.YtbmdfnifbimfmaaGreatDoor
