/- Walks: branches and its iterator. -/
import Derived.Test.YtbmdfnifbimfmaaGreatDoorC5
import Derived.Test.YtbmdfnifbimfmaaGreatDoorG1
namespace Go.Proofs.YtbmdfnifbimfmaaGreatDoor
open Go.RowKit Go.Shelf
attribute [local go_sem] Oper.semAt_some

/-- out with x at its place. -/
def cntLt (l : List Int) (x : Int) : Nat := l.countP fun y => decide (y < x)
def brL (out : List Int) (x : Int) : List Int := insAt out (cntLt out x) x
theorem cntLt_le (l : List Int) (x : Int) : cntLt l x ≤ l.length := List.countP_le_length

theorem bsearchI_any (v : Value) (l : List Int) (x : Int) (w : World) (h : SI w v l) (hs : Inc l) (hl : l.length ≤ 1000000) :
    Calls Tryz.prog 66 #[v, .int .i64 x] w fun e w' => ∃ b : Bool, e = .returned (.tuple #[.int .i64 (cntLt l x), .bool b]) ∧ Below w.heap.size w w' := by
  obtain ⟨A, c, rfl, hc, hm, hA⟩ := h.form
  by_cases h0 : l.length = 0
  · have : l = [] := List.eq_nil_of_length_eq_zero h0
    subst this
    refine (Tryz.slices_BinarySearch_int_empty A c x w).mono ?_
    rintro e w' ⟨rfl, rfl⟩
    exact ⟨false, rfl, Below.refl _ _⟩
  · obtain ⟨b, off, rfl, hb, hcell⟩ := hA (by omega)
    refine (Tryz.slices_BinarySearch_int b off l.length c l x w (Nat.le_refl _) (by omega) (fun j hj => ?_) ?_).mono ?_
    · obtain ⟨y, hy⟩ := get_some hj
      rw [hcell j y hy, List.getD_eq_getElem?_getD, hy]; rfl
    · rw [List.take_length]; exact hs.imp (fun h => by omega)
    · rintro e w' ⟨rfl, q, rfl⟩
      rw [List.take_length]
      exact ⟨_, rfl, bDrN (Below.refl _ _) q⟩

abbrev JT' := List (Value × List Int) → World → Prop
/-- What the iterator may do: new blocks alone. -/
def JUp (J : JT') : Prop := ∀ s A B, J s A → Below A.heap.size A B → J s B
/-- The caller's word: the kept blocks are as they were. -/
def YieldB (P : Nat → Prop) (Z : Nat → List Int → Prop) (B m lp : Nat) (J : JT') : Prop :=
  ∀ (pre : List (Value × List Int)) (u : Value) (T : List Int) (W : World), J pre W → W.ownsRow B 3 1 u T.length (T.map iV) → Z pre.length T →
    YieldAt Fence.wide m Tryz.prog lp #[u] W fun e W' => e = .returned (.bool true) ∧ J (pre ++ [(u, T)]) W' ∧ W.heap.size ≤ W'.heap.size ∧ ∀ k, P k → k < W.heap.size → W'.heap[k]? = W.heap[k]?

set_option maxRecDepth 100000 in
set_option maxHeartbeats 4000000 in
theorem branches1_any (P : Nat → Prop) (Z : Nat → List Int → Prop) (m lp Bs Bo : Nat) (J : JT') (W : World) (vs vo : Value) (set out : List Int) (hJ : JUp J) (hY : YieldB P Z W.heap.size m lp J) (hs : W.cell? ⟨Bs, 0, none⟩ = some vs) (ho : W.cell? ⟨Bo, 0, none⟩ = some vo) (hvs : SI W vs set) (hvo : SI W vo out)
    (_ : P Bs) (hPo : P Bo) (hPvs : ∀ a n c, vs = .slice (some a) n c → 0 < n → P a.block) (hPvo : ∀ a n c, vo = .slice (some a) n c → 0 < n → P a.block) (hinc : Inc out) (hls : set.length ≤ 1000000) (hlo : out.length ≤ 1000000) (hZ : ∀ (k : Nat) (x : Int), set[k]? = some x → Z k (brL out x)) (h0 : J [] W) :
    Calls Tryz.prog 65 #[.func (.yield lp) #[] #[], .pointer (some ⟨Bs, 0, none⟩), .pointer (some ⟨Bo, 0, none⟩)] W fun e W' => (∃ v, e = .returned v) ∧ ∃ ys, ys.map (·.2) = set.map (brL out) ∧ J ys W' := by
  refine (callsIn_wide (n := 3)).1 ?_
  obtain ⟨As, cs, hfs, _, _, hAs⟩ := hvs.form
  obtain ⟨Ao, co, hfo⟩ := SI.slice_form hvo
  subst hfs hfo
  have hBs := World.block_lt_of_cell? _ _ hs
  have hBo := World.block_lt_of_cell? _ _ ho
  have HJ := Lib.hid hJ
  have HY : Hid (YieldB P Z W.heap.size 2 lp J) := Lib.hid (fun pre u T W h1 h2 h3 => by
    obtain ⟨fn, tmps, assign, body, hy, hR⟩ := hY pre u T W h1 h2 h3
    exact ⟨fn, tmps, assign, body, hy, hR.1, fun c cs _ => hR.2 c cs (room_wide _)⟩)
  have HZ := Lib.hid hZ
  have HVS := Lib.hid hvs
  have HVO := Lib.hid hvo
  have HPS := Lib.hid hPvs
  have HPO := Lib.hid hPvo
  have HAS := Lib.hid hAs
  have HINC := Lib.hid hinc
  clear hJ hY hvs hvo hPvs hPvo hAs hinc hZ
  refine callsIn_of_wp Tryz.func65 rfl trivial ?_ rfl
  simp only [Tryz.ntmps65, List.size_toArray, List.length_cons, List.length_nil, Nat.reduceAdd, Nat.reduceSub, Array.replicate_succ, Array.replicate_zero, List.push_toArray, List.append_toArray, List.nil_append, List.cons_append]
  gi_wp2_with fail
  gi_loopw [10] (fun i wr => ∃ (k : Nat) (ys : List (Value × List Int)), k ≤ set.length ∧ i = .int .i64 k ∧ Hid (ys.map (·.2) = (set.take k).map (brL out)) ∧ Hid (J ys wr) ∧ Hid (W.heap.size ≤ wr.heap.size ∧ ∀ k, P k → k < W.heap.size → wr.heap[k]? = W.heap[k]?)) (fun i _ => set.length - (intOf i).toNat)
  case atStart => exact ⟨0, [], Nat.zero_le _, rfl, Lib.hid rfl, Lib.hid h0, Lib.hid ⟨Nat.le_refl _, fun _ _ _ => rfl⟩⟩
  case round =>
    obtain ⟨k, ys, hk, rfl, HYS, HJS, HK⟩ := hrel
    by_cases hlt : k < set.length
    · obtain ⟨b, off, rfl, hb, hcell⟩ := HAS.out (by omega)
      obtain ⟨x, hx⟩ := get_some hlt
      have hpb : P b := HPS.out ⟨b, off, none⟩ _ _ rfl (by omega)
      have d0 : wr.cell? ⟨b, off + k, none⟩ = some (.int .i64 x) := (World.cell?_of_block (w := W) (a := ⟨b, off + k, none⟩) (HK.out.2 b hpb hb)).trans (hcell k x hx)
      have d1 : wr.cell? ⟨Bo, 0, none⟩ = some (.slice Ao out.length co) := (World.cell?_of_block (w := W) (a := ⟨Bo, 0, none⟩) (HK.out.2 Bo hPo hBo)).trans ho
      have hout : SI wr (.slice Ao out.length co) out := HVO.out.block HK.out.1 fun a n c e hn => HK.out.2 _ (HPO.out a n c e hn) (HVO.out.block_lt e hn)
      have HOUT := Lib.hid hout
      have HX := Lib.hid hx
      clear hcell hx hout
      gi_wp2_with fail
      refine ⟨trivial, ((callsIn_wide).2 (bsearchI_any _ out x wr HOUT.out HINC.out hlo)).mono ?_⟩
      rintro e w2 ⟨bb, rfl, hB2⟩
      have d2 : w2.cell? ⟨Bo, 0, none⟩ = some (.slice Ao out.length co) := (hB2.cell (p := ⟨Bo, 0, none⟩) (Nat.lt_of_lt_of_le hBo HK.out.1)).trans d1
      have HOUT2 := Lib.hid (HOUT.out.up hB2)
      have HB2 := Lib.hid hB2
      clear hB2
      gi_wp2_with fail
      refine ⟨trivial, ((callsIn_wide).2 (cloneS_any _ out w2 HOUT2.out hlo)).mono ?_⟩
      rintro e w3 ⟨v3, rfl, hr3, hB3⟩
      obtain ⟨A3, c3, hf3⟩ := own_form hr3
      subst hf3
      have HR3 := Lib.hid hr3
      have HB3 := Lib.hid hB3
      clear hr3 hB3
      gi_wp2_with fail
      refine ⟨trivial, ((callsIn_wide).2 (insI_any w2.heap.size _ out (cntLt out x) x w3.heap.size (w3.alloc (.cells #[.int .i64 x] 3)) (HR3.out.alloc _) (cntLt_le _ _) hlo (Blk.new _ _ _) ?hne ?hbs)).mono ?_⟩
      case hne => intro e; have := (HR3.out.lt _ e).2; omega
      case hbs => have := HB3.out.size; simp; omega
      rintro e w4 ⟨v4, rfl, hr4, hg4⟩
      have hB4 : Below wr.heap.size wr w4 := by
        have h1 : Below wr.heap.size wr w3 := bAfter HB2.out HB3.out
        exact (bAl h1 _).grown hg4 (by have := h1.size; simp; omega) (fun k e => by have := (HR3.out.lt k e).1; have := HB2.out.size; omega)
      have hJ4 := HJ.out _ _ _ HJS.out hB4
      have hlen : (brL out x).length ≤ 1000001 := by unfold brL; rw [insAt_len _ _ _ (cntLt_le _ _)]; omega
      have hr5 : w4.ownsRow W.heap.size 3 1 v4 (brL out x).length ((brL out x).map iV) := by
        have : ((insAt out (cntLt out x) x).map iV).length = (brL out x).length := by rw [List.length_map]; rfl
        rw [← this]
        exact ownsRow_base' hr4 (Nat.le_trans HK.out.1 HB2.out.size)
      obtain ⟨fn, tmps, assign, body, hy, hR⟩ := HY.out ys v4 (brL out x) w4 hJ4 hr5 (by have hyl : ys.length = k := by { have := congrArg List.length HYS.out; rw [List.length_map, List.length_map, List.length_take] at this; omega }; rw [hyl]; exact HZ.out k x HX.out)
      have HB4 := Lib.hid hB4
      obtain ⟨A4, c4, hf4⟩ := own_form hr5
      subst hf4
      clear hJ4 hr4 hg4 hr5 hB4 d0 d1 d2
      gi_wp2_with fail
      refine hR.mono ?_
      rintro e w5 ⟨rfl, hJ5, hs5, hk5⟩
      have HJ5 := Lib.hid hJ5
      have HK5 : Hid (W.heap.size ≤ w5.heap.size ∧ ∀ k, P k → k < W.heap.size → w5.heap[k]? = W.heap[k]?) := Lib.hid ⟨Nat.le_trans (Nat.le_trans HK.out.1 HB4.out.size) hs5, fun k hp hkl => (hk5 k hp (Nat.lt_of_lt_of_le hkl (Nat.le_trans HK.out.1 HB4.out.size))).trans ((HB4.out.block k (Nat.lt_of_lt_of_le hkl HK.out.1)).trans (HK.out.2 k hp hkl))⟩
      clear hJ5 hs5 hk5
      gi_wp2_with fail
      go_roundw
      case rel => exact ⟨k + 1, _, by omega, by simp, Lib.hid (by rw [List.map_append, HYS.out, take_snoc HX.out, List.map_append]; rfl), HJ5, HK5⟩
      case measure => simp [intOf]; omega
    · obtain rfl : k = set.length := by omega
      gi_wp2_with fail
      go_end0
      exact ⟨⟨_, rfl⟩, ys, by have := HYS.out; rwa [List.take_length] at this, HJS.out⟩
theorem eg_branches1 : ∀ args w, (callFunc 65 args).run Tryz.prog w = .ok (.enter 65 args) w := enters_of Tryz.func65 (by kernel_rfl) rfl
theorem branches_any (A1 A2 : Option Addr) (n1 n2 c1 c2 : Nat) (w : World) : Calls Tryz.prog 43 #[.slice A1 n1 c1, .slice A2 n2 c2] w fun e w' =>
    e = .returned (.func (.func 65) #[] #[.pointer (some ⟨w.heap.size + 1, 0, none⟩), .pointer (some ⟨w.heap.size, 0, none⟩)]) ∧ w' = (w.alloc (.cells #[.slice A1 n1 c1] 23)).alloc (.cells #[.slice A2 n2 c2] 23) := by
  go_enter Tryz.func43, Tryz.ntmps43
  go_wp2
  go_ret
  exact ⟨rfl, rfl⟩
end Go.Proofs.YtbmdfnifbimfmaaGreatDoor
