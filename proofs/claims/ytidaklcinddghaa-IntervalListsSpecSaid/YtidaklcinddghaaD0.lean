/- The reference's add. -/
import Derived.Test.YtidaklcinddghaaC0
import Derived.Test.YtidaklcinddghaaPr
import Derived.Deep.RegionHeld3
import Derived.IntWalk
import Derived.StillTailTactics
namespace Go.Proofs.Ytidaklcinddghaa
open Go.RowKit Go.Shelf

def AddI (i : Int × Int) (u : List (Int × Int)) (k : Nat) (i' : Int × Int) (out : List (Int × Int)) (done : Bool) : Prop :=
  (done = false → out.length ≤ k ∧ out ++ addL i' (u.drop k) = addL i u) ∧ (done = true → out.length ≤ k + 1 ∧ out ++ u.drop k = addL i u ∧ ∀ x ∈ u.drop k, i'.2 + 1 < x.1)

theorem AddI.start (i : Int × Int) (u : List (Int × Int)) : AddI i u 0 i [] false := ⟨fun _ => ⟨Nat.le_refl _, rfl⟩, fun h => by cases h⟩
theorem AddI.len {i : Int × Int} {u : List (Int × Int)} {k : Nat} {i' : Int × Int} {out : List (Int × Int)} {done : Bool} (h : AddI i u k i' out done) : out.length ≤ k + 1 := by
  cases done with
  | false => have := (h.1 rfl).1; omega
  | true => exact (h.2 rfl).1
theorem AddI.left {i : Int × Int} {u : List (Int × Int)} {k : Nat} {i' x : Int × Int} {out : List (Int × Int)} (h : AddI i u k i' out false) (hx : u[k]? = some x) (t : x.2 + 1 < i'.1) : AddI i u (k + 1) i' (out ++ [x]) false := by
  refine ⟨fun _ => ?_, fun h => by cases h⟩
  obtain ⟨h1, h2⟩ := h.1 rfl
  refine ⟨by simp; omega, ?_⟩
  rw [← h2, drop_cons_of hx, addL_left t, List.append_assoc]; rfl
theorem AddI.stop {i : Int × Int} {u : List (Int × Int)} (hs : Sep u) {k : Nat} {i' x : Int × Int} {out : List (Int × Int)} (h : AddI i u k i' out false) (hx : u[k]? = some x) (t : ¬ x.2 + 1 < i'.1) (t' : i'.2 + 1 < x.1) : AddI i u (k + 1) i' (out ++ [i'] ++ [x]) true := by
  refine ⟨fun h => (by cases h), fun _ => ?_⟩
  obtain ⟨h1, h2⟩ := h.1 rfl
  refine ⟨by simp; omega, ?_, ?_⟩
  · rw [← h2, drop_cons_of hx, addL_stop t t']; simp
  · intro y hy
    have hp : (u.drop k).Pairwise (fun x y => x.2 + 1 < y.1) := hs.2.sublist (List.drop_sublist k u)
    rw [drop_cons_of hx] at hp
    have := (List.pairwise_cons.1 hp).1 y hy
    have := hs.1 x (List.mem_of_getElem? hx)
    omega
theorem AddI.pass {i : Int × Int} {u : List (Int × Int)} {k : Nat} {i' x : Int × Int} {out : List (Int × Int)} (h : AddI i u k i' out true) (hx : u[k]? = some x) : AddI i u (k + 1) i' (out ++ [x]) true := by
  refine ⟨fun h => (by cases h), fun _ => ?_⟩
  obtain ⟨h1, h2, h3⟩ := h.2 rfl
  rw [drop_cons_of hx] at h2 h3
  exact ⟨by simp; omega, by rw [← h2]; simp, fun y hy => h3 y (by simp [hy])⟩
theorem AddI.far {i : Int × Int} {u : List (Int × Int)} {k : Nat} {i' x : Int × Int} {out : List (Int × Int)} (h : AddI i u k i' out true) (hx : u[k]? = some x) : i'.2 + 1 < x.1 := by
  obtain ⟨_, _, h3⟩ := h.2 rfl
  rw [drop_cons_of hx] at h3
  exact h3 x (by simp)
theorem AddI.join {i : Int × Int} {u : List (Int × Int)} {k : Nat} {i' x : Int × Int} {out : List (Int × Int)} (h : AddI i u k i' out false) (hx : u[k]? = some x) (t : ¬ x.2 + 1 < i'.1) (t' : ¬ i'.2 + 1 < x.1) : AddI i u (k + 1) (min i'.1 x.1, max i'.2 x.2) out false := by
  refine ⟨fun _ => ?_, fun h => by cases h⟩
  obtain ⟨h1, h2⟩ := h.1 rfl
  exact ⟨by omega, by rw [← h2, drop_cons_of hx, addL_join t t']⟩
theorem AddI.fin {i : Int × Int} {u : List (Int × Int)} {i' : Int × Int} {out : List (Int × Int)} (h : AddI i u u.length i' out false) : out ++ [i'] = addL i u := by
  obtain ⟨_, h2⟩ := h.1 rfl
  rw [← h2, List.drop_length]; rfl
theorem AddI.fin' {i : Int × Int} {u : List (Int × Int)} {i' : Int × Int} {out : List (Int × Int)} (h : AddI i u u.length i' out true) : out = addL i u := by
  obtain ⟨_, h2, _⟩ := h.2 rfl
  rw [← h2, List.drop_length]; simp

theorem add_below {w W w' : World} {v : Value} {n : Nat} {xs : List Value} {o : Obj} (h : Below w.heap.size w W) (hr : W.ownsRow (w.heap.size + 1) 23 2 v n xs) (hs : w.heap.size + 1 ≤ W.heap.size) (hg : (W.alloc o).grownBy w' v.ownBlock) : Below w.heap.size w w' :=
  (bAl h o).grown hg (by simp; omega) (fun k e => by have := (hr.lt k e).1; omega)
theorem row_ne {B : Nat} {W : World} {v : Value} {n : Nat} {xs : List Value} (hr : W.ownsRow (B + 1) 23 2 v n xs) : some B ≠ v.ownBlock := fun e => by have := (hr.lt _ e.symm).1; omega

def AddPost (w : World) (i : Int × Int) (u : List (Int × Int)) (e : Ending) (w' : World) : Prop :=
  ∃ v, e = .returned v ∧ w'.ownsRow w.heap.size 23 2 v (addL i u).length ((addL i u).flatMap encIv) ∧ Below w.heap.size w w'

set_option maxRecDepth 100000 in
set_option maxHeartbeats 4000000 in
theorem rAdd_any (v : Value) (u : List (Int × Int)) (i : Int × Int) (w : World) (h : SlIv w v u) (hs : Sep u) (hu : ∀ x ∈ u, Ok x) (hi : Ok i) (hlen : u.length ≤ 1000000) :
    Calls Try.prog 34 #[v, ivV i] w (AddPost w i u) := by
  obtain ⟨A, c, rfl, hc, hm, hA⟩ := h
  have HA := Lib.hid hA
  have HS := Lib.hid hs
  have HU := Lib.hid hu
  have HI := Lib.hid hi
  clear hA hs hu hc hm hi
  obtain ⟨i0, hi0, hz0, hz1, hz2⟩ := info_parts info23
  go_enter Try.func34, Try.ntmps34
  go_wp2
  go_loopw [5, 6, 7] (fun vo dn q wr => ∃ (k : Nat) (i' : Int × Int) (out : List (Int × Int)) (done : Bool), k ≤ u.length ∧ q = .int .i64 k ∧ dn = .bool done ∧ Ok i' ∧ Hid (AddI i u k i' out done) ∧ Blk wr w.heap.size 23 #[.int .i64 i'.1, .int .i64 i'.2] ∧ Hid (wr.ownsRow (w.heap.size + 1) 23 2 vo out.length (out.flatMap encIv)) ∧ Below w.heap.size w wr ∧ w.heap.size + 1 ≤ wr.heap.size) (fun _ _ q _ => u.length - (intOf q).toNat)
  case atStart =>
    have hmade := World.ownsRow_made (base := w.heap.size + 1) (e := 23) (size := 2) (w.alloc (.cells #[.int .i64 i.1, .int .i64 i.2] 23)) #[] 0 (by simp) (by simp [maxLen]) rfl
    exact ⟨0, i, [], false, Nat.zero_le _, rfl, rfl, HI.out, Lib.hid (AddI.start i u), (Blk.new w _ _).alloc _, Lib.hid (by simpa using hmade), bAl (bAl (Below.refl _ w) _) _, by simp⟩
  case round =>
    obtain ⟨k, i', out, done, hk, rfl, rfl, hoi, HD, b0, HR, hB, hsz⟩ := hrel
    have hlo := HD.out.len
    obtain ⟨a0, a1⟩ := cells2 b0
    have f0 := b0.frozen 0
    have f1 := b0.frozen 1
    unfold Ok at hoi
    by_cases hlt : k < u.length
    · obtain ⟨b, off, rfl, hb, hcell⟩ := HA.out (by omega)
      obtain ⟨x, hx⟩ : ∃ x, u[k]? = some x := ⟨u[k], by simp [hlt]⟩
      have c0 : wr.cell? ⟨b, off + k * 2, none⟩ = some (.int .i64 x.1) := (hB.cell hb).trans (hcell _ x hx 0 _ rfl)
      have c1 : wr.cell? ⟨b, off + k * 2 + 1, none⟩ = some (.int .i64 x.2) := (hB.cell hb).trans (hcell _ x hx 1 _ rfl)
      have hox := HU.out x (List.mem_of_getElem? hx)
      unfold Ok at hox
      have HX := Lib.hid hx
      clear hcell hx
      have g1 : (0 : Int) ≤ (k : Int) := by omega
      have g2 : (k : Int) < (u.length : Int) := by omega
      have q1 : IntKind.i64.wrap (x.2 + 1) = x.2 + 1 := IntWalk.i64_in _ (by omega)
      by_cases t1 : x.2 + 1 < i'.1
      · have hd : decide (x.2 + 1 < i'.1) = true := by simp [t1]
        have hdn : done = false := by
          cases done with
          | false => rfl
          | true => have := HD.out.far HX.out; omega
        subst hdn
        go_wp2_with fail
        go_quiet (fail)
        have b0q : Blk (wr.drewN nq) w.heap.size 23 #[.int .i64 i'.1, .int .i64 i'.2] := b0
        have HRq : Hid ((wr.drewN nq).ownsRow (w.heap.size + 1) 23 2 u5 out.length (out.flatMap encIv)) := Lib.hid HR.out
        have hBq : Below w.heap.size w (wr.drewN nq) := bDrN hB nq
        have hszq : w.heap.size + 1 ≤ (wr.drewN nq).heap.size := hsz
        have c0q : (wr.drewN nq).cell? ⟨b, off + k * 2, none⟩ = some (.int .i64 x.1) := c0
        have c1q : (wr.drewN nq).cell? ⟨b, off + k * 2 + 1, none⟩ = some (.int .i64 x.2) := c1
        clear b0 HR hB hsz c0 c1 a0 a1 f0 f1
        generalize wr.drewN nq = wq at *
        clear nq
        have b0 := b0q
        have HR := HRq
        have hB := hBq
        have hsz := hszq
        have c0 := c0q
        have c1 := c1q
        clear b0q HRq hBq hszq c0q c1q
        obtain ⟨a0, a1⟩ := cells2 b0
        have f0 := b0.frozen 0
        have f1 := b0.frozen 1
        clear q1
        go_wp2_with (at_builtin; refine wpList_append_own _ rfl _ _ 24 rfl (w.heap.size + 1) 23 i0 (.agg #[.int .i64 0, .int .i64 0]) 2 16 Try.underlying24 hi0 hz0 hz1 hz2 rfl (by decide) _ _ _ rfl (World.ownsRow.alloc (w := wq) HR.out _) ⟨wq.heap.size, 0, none⟩ 1 1 (encIv x) rfl rfl ?c1 ?c2 ?c3 ?c4 ?c5 ?_)
        case c1 => exact encIv_new _ _ rfl x
        case c2 => exact encIv_one _
        case c3 => simp only [maxLen]; (first | omega | (simp; omega))
        case c4 => first | omega | (simp; omega)
        case c5 => simp; omega
        intro v1 w1 hown hgrow _
        have hB1 := add_below hB HR.out hsz hgrow
        have b1 : Blk w1 w.heap.size 23 #[.int .i64 i'.1, .int .i64 i'.2] := (b0.alloc _).grown hgrow (row_ne HR.out)
        have hsz1 := hgrow.size
        have HO := Lib.hid hown
        clear hown hgrow
        go_wp2_with fail
        go_roundw
        case rel => exact ⟨k + 1, i', out ++ [x], false, by omega, by go_num, rfl, hoi, Lib.hid (HD.out.left HX.out t1), b1, Lib.hid (by simpa using HO.out), hB1, by simp at hsz1; omega⟩
        case measure => simp [intOf]; omega
      · have hd : decide (x.2 + 1 < i'.1) = false := by simp; omega
        go_wp2_with fail
        go_quiet (fail)
        have b0q : Blk (wr.drewN nq) w.heap.size 23 #[.int .i64 i'.1, .int .i64 i'.2] := b0
        have HRq : Hid ((wr.drewN nq).ownsRow (w.heap.size + 1) 23 2 u5 out.length (out.flatMap encIv)) := Lib.hid HR.out
        have hBq : Below w.heap.size w (wr.drewN nq) := bDrN hB nq
        have hszq : w.heap.size + 1 ≤ (wr.drewN nq).heap.size := hsz
        have c0q : (wr.drewN nq).cell? ⟨b, off + k * 2, none⟩ = some (.int .i64 x.1) := c0
        have c1q : (wr.drewN nq).cell? ⟨b, off + k * 2 + 1, none⟩ = some (.int .i64 x.2) := c1
        clear b0 HR hB hsz c0 c1 a0 a1 f0 f1
        generalize wr.drewN nq = wq at *
        clear nq
        have b0 := b0q
        have HR := HRq
        have hB := hBq
        have hsz := hszq
        have c0 := c0q
        have c1 := c1q
        clear b0q HRq hBq hszq c0q c1q
        obtain ⟨a0, a1⟩ := cells2 b0
        have f0 := b0.frozen 0
        have f1 := b0.frozen 1
        clear q1
        have q2 : IntKind.i64.wrap (i'.2 + 1) = i'.2 + 1 := IntWalk.i64_in _ (by omega)
        by_cases t2 : i'.2 + 1 < x.1
        · have hd2 : decide (i'.2 + 1 < x.1) = true := by simp [t2]
          go_wp2_with fail
          go_quiet (fail)
          have b0q : Blk (wq.drewN nq) w.heap.size 23 #[.int .i64 i'.1, .int .i64 i'.2] := b0
          have HRq : Hid ((wq.drewN nq).ownsRow (w.heap.size + 1) 23 2 u5 out.length (out.flatMap encIv)) := Lib.hid HR.out
          have hBq : Below w.heap.size w (wq.drewN nq) := bDrN hB nq
          have hszq : w.heap.size + 1 ≤ (wq.drewN nq).heap.size := hsz
          have c0q : (wq.drewN nq).cell? ⟨b, off + k * 2, none⟩ = some (.int .i64 x.1) := c0
          have c1q : (wq.drewN nq).cell? ⟨b, off + k * 2 + 1, none⟩ = some (.int .i64 x.2) := c1
          clear b0 HR hB hsz c0 c1 a0 a1 f0 f1
          generalize wq.drewN nq = wp at *
          clear nq
          have b0 := b0q
          have HR := HRq
          have hB := hBq
          have hsz := hszq
          have c0 := c0q
          have c1 := c1q
          clear b0q HRq hBq hszq c0q c1q
          obtain ⟨a0, a1⟩ := cells2 b0
          have f0 := b0.frozen 0
          have f1 := b0.frozen 1
          clear q2
          cases done with
          | true =>
            go_wp2_with (at_builtin; refine wpList_append_own _ rfl _ _ 24 rfl (w.heap.size + 1) 23 i0 (.agg #[.int .i64 0, .int .i64 0]) 2 16 Try.underlying24 hi0 hz0 hz1 hz2 rfl (by decide) _ _ _ rfl (World.ownsRow.alloc (w := wp) HR.out _) ⟨wp.heap.size, 0, none⟩ 1 1 (encIv x) rfl rfl ?d1 ?d2 ?d3 ?d4 ?d5 ?_)
            case d1 => exact encIv_new _ _ rfl x
            case d2 => exact encIv_one _
            case d3 => simp only [maxLen]; (first | omega | (simp; omega))
            case d4 => first | omega | (simp; omega)
            case d5 => simp; omega
            intro v1 w1 hown hgrow _
            have hB1 := add_below hB HR.out hsz hgrow
            have b1 : Blk w1 w.heap.size 23 #[.int .i64 i'.1, .int .i64 i'.2] := (b0.alloc _).grown hgrow (row_ne HR.out)
            have hsz1 := hgrow.size
            have HO := Lib.hid hown
            clear hown hgrow
            go_wp2_with fail
            go_roundw
            case rel => exact ⟨k + 1, i', out ++ [x], true, by omega, by go_num, rfl, hoi, Lib.hid (HD.out.pass HX.out), b1, Lib.hid (by simpa using HO.out), hB1, by simp at hsz1; omega⟩
            case measure => simp [intOf]; omega
          | false =>
            go_wp2_with (at_builtin; refine wpList_append_own _ rfl _ _ 24 rfl (w.heap.size + 1) 23 i0 (.agg #[.int .i64 0, .int .i64 0]) 2 16 Try.underlying24 hi0 hz0 hz1 hz2 rfl (by decide) _ _ _ rfl (World.ownsRow.alloc (w := wp) HR.out _) ⟨wp.heap.size, 0, none⟩ 1 1 (encIv i') rfl rfl ?e1 ?e2 ?e3 ?e4 ?e5 ?_)
            case e1 => exact encIv_new _ _ rfl i'
            case e2 => exact encIv_one _
            case e3 => simp only [maxLen]; (first | omega | (simp; omega))
            case e4 => first | omega | (simp; omega)
            case e5 => simp; omega
            intro v1 w1 hown hgrow _
            have hB1 := add_below hB HR.out hsz hgrow
            have b1 : Blk w1 w.heap.size 23 #[.int .i64 i'.1, .int .i64 i'.2] := (b0.alloc _).grown hgrow (row_ne HR.out)
            have hsz1 := hgrow.size
            have HO := Lib.hid hown
            have c0' : w1.cell? ⟨b, off + k * 2, none⟩ = some (.int .i64 x.1) := (hB1.cell hb).trans ((hB.cell hb).symm.trans c0)
            have c1' : w1.cell? ⟨b, off + k * 2 + 1, none⟩ = some (.int .i64 x.2) := (hB1.cell hb).trans ((hB.cell hb).symm.trans c1)
            have HO1 : Hid (w1.ownsRow (w.heap.size + 1) 23 2 v1 (out ++ [i']).length ((out ++ [i']).flatMap encIv)) := Lib.hid (by simpa using HO.out)
            have hsz2 : w.heap.size + 1 ≤ w1.heap.size := by simp at hsz1; omega
            have hlo2 : (out ++ [i']).length ≤ k + 1 := by have := (HD.out.1 rfl).1; simp; omega
            clear hown hgrow HR HO b0 hB hsz c0 c1 a0 a1 f0 f1 hsz1
            obtain ⟨o2, ho2⟩ : ∃ o2, out ++ [i'] = o2 := ⟨_, rfl⟩
            rw [ho2] at HO1 hlo2
            have HR := HO1
            have b0 := b1
            have hB := hB1
            have hsz := hsz2
            clear HO1 b1 hB1 hsz2
            go_wp2_with (at_builtin; refine wpList_append_own _ rfl _ _ 24 rfl (w.heap.size + 1) 23 i0 (.agg #[.int .i64 0, .int .i64 0]) 2 16 Try.underlying24 hi0 hz0 hz1 hz2 rfl (by decide) _ _ _ rfl (World.ownsRow.alloc (w := w1) HR.out _) ⟨w1.heap.size, 0, none⟩ 1 1 (encIv x) rfl rfl ?f1 ?f2 ?f3 ?f4 ?f5 ?_)
            case f1 => exact encIv_new _ _ rfl x
            case f2 => exact encIv_one _
            case f3 => simp only [maxLen]; (first | omega | (simp; omega))
            case f4 => first | omega | (simp; omega)
            case f5 => simp; omega
            intro v2 w2 hown hgrow _
            have hB1 := add_below hB HR.out hsz hgrow
            have b1 : Blk w2 w.heap.size 23 #[.int .i64 i'.1, .int .i64 i'.2] := (b0.alloc _).grown hgrow (row_ne HR.out)
            have hsz1 := hgrow.size
            have HO := Lib.hid hown
            clear hown hgrow
            go_wp2_with fail
            go_roundw
            case rel => exact ⟨k + 1, i', o2 ++ [x], true, by omega, by go_num, rfl, hoi, Lib.hid (by rw [← ho2]; exact HD.out.stop HS.out HX.out (by omega) t2), b1, Lib.hid (by simpa using HO.out), hB1, by simp at hsz1; omega⟩
            case measure => simp [intOf]; omega
        · have hd2 : decide (i'.2 + 1 < x.1) = false := by simp; omega
          have hdn : done = false := by
            cases done with
            | false => rfl
            | true => have := HD.out.far HX.out; omega
          subst hdn
          go_wp2_with fail
          go_quiet (fail)
          have b0q : Blk (wq.drewN nq) w.heap.size 23 #[.int .i64 i'.1, .int .i64 i'.2] := b0
          have HRq : Hid ((wq.drewN nq).ownsRow (w.heap.size + 1) 23 2 u5 out.length (out.flatMap encIv)) := Lib.hid HR.out
          have hBq : Below w.heap.size w (wq.drewN nq) := bDrN hB nq
          have hszq : w.heap.size + 1 ≤ (wq.drewN nq).heap.size := hsz
          have c0q : (wq.drewN nq).cell? ⟨b, off + k * 2, none⟩ = some (.int .i64 x.1) := c0
          have c1q : (wq.drewN nq).cell? ⟨b, off + k * 2 + 1, none⟩ = some (.int .i64 x.2) := c1
          clear b0 HR hB hsz c0 c1 a0 a1 f0 f1
          generalize wq.drewN nq = wp at *
          clear nq
          have b0 := b0q
          have HR := HRq
          have hB := hBq
          have hsz := hszq
          have c0 := c0q
          have c1 := c1q
          clear b0q HRq hBq hszq c0q c1q
          obtain ⟨a0, a1⟩ := cells2 b0
          have f0 := b0.frozen 0
          have f1 := b0.frozen 1
          clear q2
          go_wp2_with fail
          go_still_tail 17, (by kernel_rfl)
          go_wp2_with fail
          go_roundw
          case rel => exact ⟨k + 1, (min i'.1 x.1, max i'.2 x.2), out, false, by omega, by go_num, rfl, by unfold Ok; dsimp only; omega, Lib.hid (HD.out.join HX.out (by omega) (by omega)), (b0.set_ 0 _).set_ 1 _, Lib.hid (by exact ownsRow_setCell_below (ownsRow_setCell_below HR.out (by simp) _) (by simp) _), ((hB.drew.setCell (p := ⟨w.heap.size, 0, none⟩) (Nat.le_refl _) _).setCell (p := ⟨w.heap.size, 1, none⟩) (Nat.le_refl _) _), by simpa [World.setCell] using hsz⟩
          case measure => simp [intOf]; omega
    · obtain rfl : k = u.length := by omega
      cases done with
      | true =>
        go_wp2_with fail
        go_ret
        exact ⟨_, rfl, by rw [← HD.out.fin']; exact ownsRow_base HR.out (by omega), hB⟩
      | false =>
        go_wp2_with (at_builtin; refine wpList_append_own _ rfl _ _ 24 rfl (w.heap.size + 1) 23 i0 (.agg #[.int .i64 0, .int .i64 0]) 2 16 Try.underlying24 hi0 hz0 hz1 hz2 rfl (by decide) _ _ _ rfl (World.ownsRow.alloc (w := wr) HR.out _) ⟨wr.heap.size, 0, none⟩ 1 1 (encIv i') rfl rfl ?g1 ?g2 ?g3 ?g4 ?g5 ?_)
        case g1 => exact encIv_new _ _ rfl i'
        case g2 => exact encIv_one _
        case g3 => simp only [maxLen]; (first | omega | (simp; omega))
        case g4 => first | omega | (simp; omega)
        case g5 => simp; omega
        intro v1 w1 hown hgrow _
        have hB1 := add_below hB HR.out hsz hgrow
        have b1 : Blk w1 w.heap.size 23 #[.int .i64 i'.1, .int .i64 i'.2] := (b0.alloc _).grown hgrow (row_ne HR.out)
        have hsz1 := hgrow.size
        have HO := Lib.hid hown
        clear hown hgrow
        go_wp2_with fail
        go_ret
        exact ⟨_, rfl, by rw [← HD.out.fin]; exact ownsRow_base (by simpa using HO.out) (by omega), hB1⟩
end Go.Proofs.Ytidaklcinddghaa
