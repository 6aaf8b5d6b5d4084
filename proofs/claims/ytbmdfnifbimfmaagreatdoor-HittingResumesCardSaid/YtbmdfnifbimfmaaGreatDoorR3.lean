/- Walks of the reference: With. -/
import Derived.Test.YtbmdfnifbimfmaaGreatDoorR2
import Derived.ArgAppend
import Derived.Deep.RegionHeld3
namespace Go.Proofs.YtbmdfnifbimfmaaGreatDoor
open Go.RowKit

theorem one_pairs {w : World} {ps : List (Value × List Int)} (h : ∀ p ∈ ps, SI w p.1 p.2) : ∀ x ∈ ps, ∀ u ∈ enc1 (fun p : Value × List Int => p.1) x, u.oneCell' = true := by
  intro x hx u hu
  obtain ⟨A, c, e⟩ := SI.slice_form (h x hx)
  rw [List.mem_singleton.1 hu]
  show (x.1).oneCell' = true
  rw [e]; rfl
theorem ownLit1 (w : World) {base : Nat} (e : TypeId) (u : Value) (hb : base ≤ w.heap.size) : (w.alloc (.cells #[u] e)).ownsRow base e 1 (.slice (some ⟨w.heap.size, 0, none⟩) 1 1) 1 [u] :=
  World.ownsRow_lit w #[u] 1 hb (by simp [maxLen]) rfl
theorem own_pos {w : World} {base : Nat} {e : TypeId} {size n : Nat} {v : Value} {xs : List Value} (h : w.ownsRow base e size v n xs) (hn : 0 < n) : ∃ g cap, v = .slice (some ⟨g, 0, none⟩) n cap := by
  rcases h.2 with ⟨_, h0⟩ | ⟨g, cap, _, hv, _⟩
  · omega
  · exact ⟨g, cap, hv⟩
section
variable {P : Program} {α : Type} {f : α → Value} {w : World} {A : Option Addr} {c : Nat} {l : List α}
/-- A cut from n on. -/
theorem cut_from {t : TypeId} (ht : P.underlying t = some (.slice (P.elem t))) (hz : ∀ W, (sizeOf (P.elem t)).run P W = .ok 1 W) (h : S1 w f (.slice A l.length c) l) {n : Nat} (hn : n ≤ l.length) :
    ∃ A1, (∀ (W : World), (Instr.slice t (.slice A l.length c) (some (.int .i64 n)) none none).run P W = .ok (.slice A1 (l.length - n) (c - n)) W) ∧ S1 w f (.slice A1 (l.length - n) (c - n)) (l.drop n) := by
  refine ⟨if c = n then A else A.map (·.add (n * 1)), fun W => ?_, ?_⟩
  · rw [run_slice_l W t A l.length c ht .i64 n (by omega) (by omega), hz]
    simp [Result.andThen, sliced]
  · obtain ⟨A', c', hv, hc, hm, hA⟩ := h.form
    obtain ⟨rfl, rfl⟩ : A = A' ∧ c = c' := by injection hv with h1 h2 h3; exact ⟨h1, h3⟩
    rw [show l.length - n = (l.drop n).length by simp]
    refine S1.mk (by simp; omega) (by omega) fun h0 => ?_
    have h0' : n < l.length := by rw [List.length_drop] at h0; omega
    obtain ⟨b, off, rfl, hb, hcell⟩ := hA (by omega)
    refine ⟨b, off + n, ?_, hb, fun i x hi => ?_⟩
    · rw [if_neg (by omega)]; simp [add_lit]
    · rw [List.getElem?_drop] at hi
      rw [Nat.add_assoc]; exact hcell _ x hi
/-- A cut up to n, with no room behind it. -/
theorem cut_to {t : TypeId} (ht : P.underlying t = some (.slice (P.elem t))) (hz : ∀ W, (sizeOf (P.elem t)).run P W = .ok 1 W) (h : S1 w f (.slice A l.length c) l) {n : Nat} (hn : n ≤ l.length) :
    (∀ (W : World), (Instr.slice t (.slice A l.length c) none (some (.int .i64 n)) (some (.int .i64 n))).run P W = .ok (.slice A n n) W) ∧ S1 w f (.slice A n n) (l.take n) ∧ (A = none → n = 0 ∧ n = 0) ∧
      ∀ b, A = some b → ∀ j u, ((l.take n).map f)[j]? = some u → w.cell? (b.add j) = some u := by
  obtain ⟨A', c', hv, hc, hm, hA⟩ := h.form
  obtain ⟨rfl, rfl⟩ : A = A' ∧ c = c' := by injection hv with h1 h2 h3; exact ⟨h1, h3⟩
  have hlt : (l.take n).length = n := by rw [List.length_take]; omega
  refine ⟨fun W => ?_, ?_, ?_, ?_⟩
  · rw [run_slice_hm W t A l.length c ht .i64 .i64 n n (by omega) (by omega) (by omega), hz]
    have : A.map (·.add 0) = A := by cases A <;> simp [Addr.add]
    simp [Result.andThen, sliced, this]
  · have := S1.mk (w := w) (f := f) (A := A) (l := l.take n) (c := n) (by omega) (by omega) fun h0 => by
      obtain ⟨b, off, e, hb, hcell⟩ := hA (by omega)
      exact ⟨b, off, e, hb, fun i x hi => hcell i x (by rw [List.getElem?_take] at hi; split at hi; · exact hi
                                                        · cases hi)⟩
    rwa [hlt] at this
  · intro e
    subst e
    rcases Nat.eq_zero_or_pos l.length with h0 | h0
    · exact ⟨by omega, by omega⟩
    · obtain ⟨_, _, e, _⟩ := hA h0; cases e
  · intro b e j u hj
    subst e
    have hj' : j < n := by
      rcases Nat.lt_or_ge j n with h1 | h1
      · exact h1
      · rw [List.getElem?_eq_none (by simp; omega)] at hj; cases hj
    obtain ⟨b', off, e, hb, hcell⟩ := hA (by omega)
    injection e with e
    subst e
    rw [List.getElem?_map, List.getElem?_take, if_pos hj'] at hj
    obtain ⟨x, hx, rfl⟩ := Option.map_eq_some_iff.1 hj
    rw [add_lit]; exact hcell j x hx
end

/-- A cut up to n, with the room behind it. -/
theorem cut_pre {P : Program} {α : Type} {f : α → Value} {w : World} {A : Option Addr} {c : Nat} {l : List α} {t : TypeId} (ht : P.underlying t = some (.slice (P.elem t))) (hz : ∀ W, (sizeOf (P.elem t)).run P W = .ok 1 W) (h : S1 w f (.slice A l.length c) l) {n : Nat} (hn : n ≤ l.length) :
    (∀ (W : World), (Instr.slice t (.slice A l.length c) none (some (.int .i64 n)) none).run P W = .ok (.slice A n c) W) ∧ S1 w f (.slice A n c) (l.take n) := by
  obtain ⟨A', c', hv, hc, hm, hA⟩ := h.form
  obtain ⟨rfl, rfl⟩ : A = A' ∧ c = c' := by injection hv with h1 h2 h3; exact ⟨h1, h3⟩
  have hlt : (l.take n).length = n := by rw [List.length_take]; omega
  refine ⟨fun W => ?_, ?_⟩
  · rw [run_slice_h W t _ _ _ ht .i64 n (by omega) (by omega), hz]
    have : A.map (·.add 0) = A := by cases A <;> simp [Addr.add]
    simp [Result.andThen, sliced, this]
  · have := S1.mk (w := w) (f := f) (A := A) (l := l.take n) (c := c) (by omega) hm fun h0 => by
      obtain ⟨b, off, e, hb, hcell⟩ := hA (by omega)
      exact ⟨b, off, e, hb, fun i x hi => hcell i x (by rw [List.getElem?_take] at hi; split at hi; · exact hi
                                                        · cases hi)⟩
    rwa [hlt] at this

theorem zS : ∀ W, (sizeOf (Tryz.prog.elem 22)).run Tryz.prog W = .ok 1 W := fun W => by rw [show Tryz.prog.elem 22 = 23 from by kernel_rfl]; exact Tryz.sizeOf23 W
theorem uS : Tryz.prog.underlying 22 = some (.slice (Tryz.prog.elem 22)) := by kernel_rfl
theorem zI : ∀ W, (sizeOf (Tryz.prog.elem 23)).run Tryz.prog W = .ok 1 W := fun W => by rw [show Tryz.prog.elem 23 = 3 from by kernel_rfl]; exact Tryz.sizeOf3 W
theorem uI : Tryz.prog.underlying 23 = some (.slice (Tryz.prog.elem 23)) := by kernel_rfl

/-- The place of a set in a list in order. -/
noncomputable def placeN (L : List (List Int)) (s : List Int) : Nat := (L.takeWhile fun l => bOf (ltS l s)).length
noncomputable def withL (L : List (List Int)) (s : List Int) : List (List Int) := if s ∈ L then L else L.take (placeN L s) ++ s :: L.drop (placeN L s)
theorem placeN_le (L : List (List Int)) (s : List Int) : placeN L s ≤ L.length := (List.takeWhile_sublist _).length_le
theorem placeN_eq {L : List (List Int)} {s : List Int} {n : Nat} (h1 : ∀ l ∈ L.take n, ltS l s) (h2 : ∀ l, L[n]? = some l → ¬ ltS l s) (hn : n ≤ L.length) : placeN L s = n := by
  unfold placeN
  rw [← List.take_append_drop n L, List.takeWhile_append_of_pos (fun l hl => bOf_true (h1 l hl))]
  have : (L.drop n).takeWhile (fun l => bOf (ltS l s)) = [] := by
    rcases Nat.lt_or_ge n L.length with hlt | hge
    · obtain ⟨x, hx⟩ := get_some hlt
      rw [drop_cons hx, List.takeWhile_cons, bOf_false (h2 x hx)]; rfl
    · rw [List.drop_eq_nil_of_le hge]; rfl
  rw [this]
  simp; omega

/-- A list of lists in w'. -/
def RetSS (w : World) (L : List (List Int)) (e : Ending) (w' : World) : Prop := ∃ v, e = .returned v ∧ SS w' v L ∧ Below w.heap.size w w'

theorem SP.ss {w : World} {v : Value} {ps : List (Value × List Int)} (h : SP w v ps) : SS w v (ps.map (·.2)) := ⟨ps, rfl, h⟩

set_option maxRecDepth 100000 in
set_option maxHeartbeats 4000000 in
theorem rWith_any (v1 v2 : Value) (L : List (List Int)) (s : List Int) (w : World) (h1 : SS w v1 L) (h2 : SI w v2 s) (hl : L.length ≤ 1000000) (hs : s.length ≤ 1000000) : Calls Tryz.prog 50 #[v1, v2] w (RetSS w (withL L s)) := by
  obtain ⟨A1, c1, rfl, hc1, hm1, hA1⟩ := h1.form
  obtain ⟨A2, c2, rfl⟩ := SI.slice_form h2
  have HA := Lib.hid hA1
  have H1 := Lib.hid h1
  have H2 := Lib.hid h2
  clear hA1 h1 h2
  unfold maxLen at hm1
  cases hin : bOf (s ∈ L) with
  | true =>
    have HI := Lib.hid hin
    clear hin
    go_enter Tryz.func50, Tryz.ntmps50
    go_wp2_with fail
    refine (rHas_eq _ _ L s _ H1.out H2.out HI.out).mono ?_
    rintro e w1 ⟨rfl, hB1⟩
    go_wp2_with fail
    go_ret
    exact ⟨_, rfl, by unfold withL; rw [if_pos (bOf_iff.1 HI.out)]; exact H1.out.up hB1, hB1⟩
  | false =>
    have HI := Lib.hid hin
    clear hin
    obtain ⟨i0, hi, hz0, hz1, hz2⟩ := info_parts infoS
    obtain ⟨j0, hj, hy0, hy1, hy2⟩ := info_parts info3
    go_enter Tryz.func50, Tryz.ntmps50
    go_wp2_with fail
    refine (rHas_eq _ _ L s _ H1.out H2.out HI.out).mono ?_
    rintro e w1 ⟨rfl, hB1⟩
    go_wp2_with fail
    go_loopw [5] (fun i wr => ∃ k : Nat, k ≤ L.length ∧ i = .int .i64 k ∧ Hid (∀ l ∈ L.take k, ltS l s) ∧ Below w.heap.size w wr) (fun i _ => L.length - (intOf i).toNat)
    case atStart => exact ⟨0, Nat.zero_le _, rfl, Lib.hid (fun _ h => by cases h), hB1⟩
    case round =>
      obtain ⟨k, hk, rfl, HR, hB⟩ := hrel
      have H2' := Lib.hid (S1.up H2.out hB)
      by_cases hgo : ∃ x, L[k]? = some x ∧ ltS x s
      · obtain ⟨x, hx, hxs⟩ := hgo
        have hlt : k < L.length := (List.getElem?_eq_some_iff.1 hx).1
        obtain ⟨b1, o1, rfl, hb1, hcell⟩ := HA.out (by omega)
        obtain ⟨u, d0, hu⟩ := hcell k x hx
        obtain ⟨Au, cu, rfl⟩ := SI.slice_form hu
        have d1 := (hB.cell (p := ⟨b1, o1 + k, none⟩) hb1).trans d0
        have HU := Lib.hid (S1.up hu hB)
        have HX := Lib.hid hx
        have HXS := Lib.hid (bOf_true hxs)
        clear hx hu hcell d0 hxs
        go_wp2_with fail
        refine (rLess_eq _ _ x s _ HU.out H2'.out HXS.out).mono ?_
        rintro e w2 ⟨rfl, hB2⟩
        go_wp2_with fail
        go_roundw
        case rel => exact ⟨k + 1, by omega, by go_num, Lib.hid (fun l hl => by
                      rw [take_snoc HX.out] at hl
                      rcases List.mem_append.1 hl with hl | hl
                      · exact HR.out l hl
                      · rw [List.mem_singleton.1 hl]; exact bOf_iff.1 HXS.out), bAfter hB hB2⟩
        case measure => simp [intOf]; omega
      · have HN : Hid (withL L s = L.take k ++ s :: L.drop k) := Lib.hid (by
          unfold withL
          rw [if_neg (bOf_false_iff.1 HI.out), placeN_eq HR.out (fun l hl' h => hgo ⟨l, hl', h⟩) hk])
        by_cases hlt : k < L.length
        · obtain ⟨b1, o1, rfl, hb1, hcell⟩ := HA.out (by omega)
          obtain ⟨x, hx⟩ := get_some hlt
          obtain ⟨u, d0, hu⟩ := hcell k x hx
          obtain ⟨Au, cu, rfl⟩ := SI.slice_form hu
          have d1 := (hB.cell (p := ⟨b1, o1 + k, none⟩) hb1).trans d0
          have HU := Lib.hid (S1.up hu hB)
          have HXS : Hid (bOf (ltS x s) = false) := Lib.hid (bOf_false fun h => hgo ⟨x, hx, h⟩)
          clear hx hu hcell d0 hgo
          go_wp2_with fail
          refine (rLess_eq _ _ x s _ HU.out H2'.out HXS.out).mono ?_
          rintro e w2 ⟨rfl, hB2⟩
          go_wp2_with fail
          have hBX : Below w.heap.size w w2 := bAfter hB hB2
          obtain ⟨ps, hps, hsp, hse⟩ := H1.out.up hBX
          have hpl : ps.length = L.length := by rw [← hps, List.length_map]
          have hsp' := hsp
          rw [← hpl] at hsp'
          obtain ⟨Ad, hrun1, hS1⟩ := cut_from uS zS hsp' (n := k) (by omega)
          obtain ⟨hrun2, _, hnone, holds⟩ := cut_to uS zS hsp' (n := k) (by omega)
          rw [hpl] at hrun1 hrun2 hS1
          obtain ⟨dr, hdr⟩ : ∃ dr, ps.drop k = dr := ⟨_, rfl⟩
          obtain ⟨tk, htk⟩ : ∃ tk, ps.take k = tk := ⟨_, rfl⟩
          have hdl : dr.length + k = L.length := by rw [← hdr, List.length_drop]; omega
          have htl : tk.length = k := by rw [← htk, List.length_take]; omega
          have hdm : ∀ p ∈ dr, p ∈ ps := fun p hp => by rw [← hdr] at hp; exact List.mem_of_mem_drop hp
          have htm : ∀ p ∈ tk, p ∈ ps := fun p hp => by rw [← htk] at hp; exact List.mem_of_mem_take hp
          have hmm : tk.map (·.2) = L.take k ∧ dr.map (·.2) = L.drop k := ⟨by rw [← htk, List.map_take, hps], by rw [← hdr, List.map_drop, hps]⟩
          rw [hdr] at hS1
          rw [htk] at holds
          have HDM := Lib.hid hdm
          have HTM := Lib.hid htm
          have HMM := Lib.hid hmm
          have HDL := Lib.hid hdl
          have HTL := Lib.hid htl
          have hdlen : dr.length ≤ 1000000 := by omega
          have H2X := Lib.hid (S1.up H2.out hBX)
          have HS1 := Lib.hid hS1
          have HOL := Lib.hid holds
          have HPS := Lib.hid hps
          have HSE := Lib.hid hse
          have HPL := Lib.hid hpl
          have HBX' := Lib.hid hBX
          have HNN := Lib.hid hnone
          have HON : Hid (∀ x ∈ dr, ∀ u ∈ enc1 (fun p : Value × List Int => p.1) x, u.oneCell' = true) := Lib.hid fun x hx => one_pairs hse x (hdm x hx)
          clear hS1 holds hps hse hpl hsp hsp' hBX H2' hnone hdm htm hmm hdl htl hdr htk
          have q1 : (0 : Int) ≤ (k : Int) := by omega
          have q2 : (k : Int) ≤ (L.length : Int) := by omega
          have q3 : (k : Int) ≤ (c1 : Int) := by omega
          go_region_held3 (fun _ => True) (trivial)
            (first
              | (refine step_append_sl _ (enc1 iV) rfl (.tmp 25) (.tmp 26) 23 rfl w2.heap.size 3 j0 (.int .i64 0) 1 8 Tryz.underlying23 hj hy0 hy1 hy2 rfl (by decide) _ 0 [] rfl (World.ownsRow_made w2 #[] 0 (Nat.le_refl _) (by simp [maxLen]) rfl).drew _ _ s (fun _ => rfl) rfl (S1.drew (S1.al H2X.out _)) (fun x _ u hu => by (rw [List.mem_singleton.1 hu]; rfl)) ?c1 ?c2 ?c3 ?_; (case c1 => (simp only [maxLen]; omega)); (case c2 => omega); (case c3 => simp);
                 intro v3 w3 hown3 hgrow3 _;
                 have hB3 : Below w2.heap.size w2 w3 := (bAl (Below.refl _ w2) _).drew.grown hgrow3 (by simp) (fun k e => Nat.le_of_eq (Option.some.inj e));
                 simp only [Nat.zero_add, List.nil_append, flat1] at hown3;
                 obtain ⟨A3, c3, rfl⟩ := own_form hown3;
                 have HO3 := Lib.hid hown3;
                 clear hgrow3 hown3)
              | (refine step_append_sl _ (enc1 fun p : Value × List Int => p.1) rfl (.tmp 28) (.tmp 31) 22 rfl w2.heap.size 23 i0 (.slice none 0 0) 1 24 Tryz.underlying22 hi hz0 hz1 hz2 rfl (by decide) _ 1 [.slice A3 s.length c3] rfl (ownLit1 w3 _ _ hB3.size) _ _ (dr) (fun _ => rfl) rfl (S1.al (S1.up HS1.out hB3) _) HON.out ?c4 ?c5 ?c6 ?_; (case c4 => (simp only [maxLen]; have := HDL.out; omega)); (case c5 => (have := HDL.out; omega)); (case c6 => (have := hB3.size; simp; omega));
                 intro v4 w4 hown4 hgrow4 _;
                 have hB4 : Below w3.heap.size w3 w4 := (bAl (Below.refl _ w3) _).grown hgrow4 (by simp) (fun k e => Nat.le_of_eq (Option.some.inj e));
                 rw [flat1] at hown4;
                 have HO4 := Lib.hid hown4;
                 obtain ⟨g4, c4, rfl⟩ := own_pos hown4 (by omega);
                 clear hgrow4 hown4))
          have HD1 : Hid ((tk.map (fun p : Value × List Int => p.1)).length = k * 1) := Lib.hid (by rw [List.length_map, HTL.out, Nat.mul_one])
          have HD2 := Lib.hid (show ∀ b, _ = some b → ∀ j u, (tk.map (fun p : Value × List Int => p.1))[j]? = some u → w4.cell? (b.add j) = some u from fun b hb j u hj' => (hB4.cell (Nat.lt_of_lt_of_le (World.block_lt_of_cell? _ _ (HOL.out b hb j u hj')) hB3.size)).trans ((hB3.cell (World.block_lt_of_cell? _ _ (HOL.out b hb j u hj'))).trans (HOL.out b hb j u hj')))
          have HD3 : Hid (([Value.slice A3 s.length c3] ++ dr.map (fun p : Value × List Int => p.1)).length = (1 + dr.length) * 1) := Lib.hid (by simp; omega)
          have HD4 : Hid (∀ j u, ([Value.slice A3 s.length c3] ++ dr.map (fun p : Value × List Int => p.1))[j]? = some u → w4.cell? ((⟨g4, 0, none⟩ : Addr).add j) = some u) := Lib.hid fun j u hj' => HO4.out.cells rfl j u hj'
          have HD5 : Hid (∀ u ∈ [Value.slice A3 s.length c3] ++ dr.map (fun p : Value × List Int => p.1), u.oneCell' = true) := Lib.hid (by
            intro u hu
            rcases List.mem_append.1 hu with hu | hu
            · rw [List.mem_singleton.1 hu]; rfl
            · obtain ⟨x, hx, rfl⟩ := List.mem_map.1 hu
              exact HON.out x hx _ (List.mem_singleton.2 rfl))
          have HD6 : Hid (k < k + (1 + dr.length)) := Lib.hid (by omega)
          have HD7 : Hid (k + (1 + dr.length) ≤ maxLen) := Lib.hid (by have := HDL.out; simp only [maxLen]; omega)
          have HD8 : Hid ((k + (1 + dr.length)) * 24 ≤ 140737488355328) := Lib.hid (by have := HDL.out; omega)
          go_wp2_with (at_builtin; refine wpList_append_grows _ rfl _ _ 22 rfl 23 i0 (.slice none 0 0) 1 24 Tryz.underlying22 hi hz0 hz1 hz2 rfl (by decide) _ k k (tk.map (fun p : Value × List Int => p.1)) rfl HNN.out HD1.out HD2.out ⟨g4, 0, none⟩ (1 + dr.length) c4 ([.slice A3 s.length c3] ++ dr.map (fun p : Value × List Int => p.1)) rfl HD3.out HD4.out HD5.out HD6.out HD7.out HD8.out ?_)
          intro v5 w5 hown5 hgrow5
          have hB5 : Below w4.heap.size w4 w5 := (Below.refl _ w4).grown hgrow5 (Nat.le_refl _) (fun k e => by cases e)
          obtain ⟨A5, c5, rfl⟩ := own_form hown5
          have HO5 := Lib.hid hown5
          clear hown5 hgrow5
          go_wp2_with fail
          go_ret
          refine ⟨_, rfl, ?_, bAfter HBX'.out (bAfter (bAfter hB3 hB4) hB5)⟩
          have hE : (tk ++ (Value.slice A3 s.length c3, s) :: dr).map (·.1) = (tk).map (·.1) ++ ([.slice A3 s.length c3] ++ (dr).map (·.1)) := by simp
          have hlenE : (tk ++ (Value.slice A3 s.length c3, s) :: dr).length = k + (1 + (dr).length) := by have := HTL.out; simp; omega
          have hrow : w5.ownsRow w4.heap.size 23 1 (.slice A5 (k + (1 + (dr).length)) c5) (tk ++ (Value.slice A3 s.length c3, s) :: dr).length ((tk ++ (Value.slice A3 s.length c3, s) :: dr).map (·.1)) := by rw [hE, hlenE]; exact HO5.out
          refine ⟨tk ++ (Value.slice A3 s.length c3, s) :: dr, ?_, own_S1 hrow, fun p hp => ?_⟩
          · rw [HN.out, List.map_append, List.map_cons, HMM.out.1, HMM.out.2]
          · rcases List.mem_append.1 hp with hp | hp
            · exact (((HSE.out p (HTM.out p hp)).up hB3).up hB4).up hB5
            · rcases List.mem_cons.1 hp with rfl | hp
              · exact ((own_S1 HO3.out).up hB4).up hB5
              · exact (((HSE.out p (HDM.out p hp)).up hB3).up hB4).up hB5
        · clear hgo
          go_wp2_with fail
          clear hlt
          have hBX : Below w.heap.size w wr := hB
          obtain ⟨ps, hps, hsp, hse⟩ := H1.out.up hBX
          have hpl : ps.length = L.length := by rw [← hps, List.length_map]
          have hsp' := hsp
          rw [← hpl] at hsp'
          obtain ⟨Ad, hrun1, hS1⟩ := cut_from uS zS hsp' (n := k) (by omega)
          obtain ⟨hrun2, _, hnone, holds⟩ := cut_to uS zS hsp' (n := k) (by omega)
          rw [hpl] at hrun1 hrun2 hS1
          obtain ⟨dr, hdr⟩ : ∃ dr, ps.drop k = dr := ⟨_, rfl⟩
          obtain ⟨tk, htk⟩ : ∃ tk, ps.take k = tk := ⟨_, rfl⟩
          have hdl : dr.length + k = L.length := by rw [← hdr, List.length_drop]; omega
          have htl : tk.length = k := by rw [← htk, List.length_take]; omega
          have hdm : ∀ p ∈ dr, p ∈ ps := fun p hp => by rw [← hdr] at hp; exact List.mem_of_mem_drop hp
          have htm : ∀ p ∈ tk, p ∈ ps := fun p hp => by rw [← htk] at hp; exact List.mem_of_mem_take hp
          have hmm : tk.map (·.2) = L.take k ∧ dr.map (·.2) = L.drop k := ⟨by rw [← htk, List.map_take, hps], by rw [← hdr, List.map_drop, hps]⟩
          rw [hdr] at hS1
          rw [htk] at holds
          have HDM := Lib.hid hdm
          have HTM := Lib.hid htm
          have HMM := Lib.hid hmm
          have HDL := Lib.hid hdl
          have HTL := Lib.hid htl
          have hdlen : dr.length ≤ 1000000 := by omega
          have H2X := Lib.hid (S1.up H2.out hBX)
          have HS1 := Lib.hid hS1
          have HOL := Lib.hid holds
          have HPS := Lib.hid hps
          have HSE := Lib.hid hse
          have HPL := Lib.hid hpl
          have HBX' := Lib.hid hBX
          have HNN := Lib.hid hnone
          have HON : Hid (∀ x ∈ dr, ∀ u ∈ enc1 (fun p : Value × List Int => p.1) x, u.oneCell' = true) := Lib.hid fun x hx => one_pairs hse x (hdm x hx)
          clear hS1 holds hps hse hpl hsp hsp' hBX H2' hnone hdm htm hmm hdl htl hdr htk
          have q1 : (0 : Int) ≤ (k : Int) := by omega
          have q2 : (k : Int) ≤ (L.length : Int) := by omega
          have q3 : (k : Int) ≤ (c1 : Int) := by omega
          go_region_held3 (fun _ => True) (trivial)
            (first
              | (refine step_append_sl _ (enc1 iV) rfl (.tmp 25) (.tmp 26) 23 rfl wr.heap.size 3 j0 (.int .i64 0) 1 8 Tryz.underlying23 hj hy0 hy1 hy2 rfl (by decide) _ 0 [] rfl (World.ownsRow_made wr #[] 0 (Nat.le_refl _) (by simp [maxLen]) rfl).drew _ _ s (fun _ => rfl) rfl (S1.drew (S1.al H2X.out _)) (fun x _ u hu => by (rw [List.mem_singleton.1 hu]; rfl)) ?c1 ?c2 ?c3 ?_; (case c1 => (simp only [maxLen]; omega)); (case c2 => omega); (case c3 => simp);
                 intro v3 w3 hown3 hgrow3 _;
                 have hB3 : Below wr.heap.size wr w3 := (bAl (Below.refl _ wr) _).drew.grown hgrow3 (by simp) (fun k e => Nat.le_of_eq (Option.some.inj e));
                 simp only [Nat.zero_add, List.nil_append, flat1] at hown3;
                 obtain ⟨A3, c3, rfl⟩ := own_form hown3;
                 have HO3 := Lib.hid hown3;
                 clear hgrow3 hown3)
              | (refine step_append_sl _ (enc1 fun p : Value × List Int => p.1) rfl (.tmp 28) (.tmp 31) 22 rfl wr.heap.size 23 i0 (.slice none 0 0) 1 24 Tryz.underlying22 hi hz0 hz1 hz2 rfl (by decide) _ 1 [.slice A3 s.length c3] rfl (ownLit1 w3 _ _ hB3.size) _ _ (dr) (fun _ => rfl) rfl (S1.al (S1.up HS1.out hB3) _) HON.out ?c4 ?c5 ?c6 ?_; (case c4 => (simp only [maxLen]; have := HDL.out; omega)); (case c5 => (have := HDL.out; omega)); (case c6 => (have := hB3.size; simp; omega));
                 intro v4 w4 hown4 hgrow4 _;
                 have hB4 : Below w3.heap.size w3 w4 := (bAl (Below.refl _ w3) _).grown hgrow4 (by simp) (fun k e => Nat.le_of_eq (Option.some.inj e));
                 rw [flat1] at hown4;
                 have HO4 := Lib.hid hown4;
                 obtain ⟨g4, c4, rfl⟩ := own_pos hown4 (by omega);
                 clear hgrow4 hown4))
          have HD1 : Hid ((tk.map (fun p : Value × List Int => p.1)).length = k * 1) := Lib.hid (by rw [List.length_map, HTL.out, Nat.mul_one])
          have HD2 := Lib.hid (show ∀ b, _ = some b → ∀ j u, (tk.map (fun p : Value × List Int => p.1))[j]? = some u → w4.cell? (b.add j) = some u from fun b hb j u hj' => (hB4.cell (Nat.lt_of_lt_of_le (World.block_lt_of_cell? _ _ (HOL.out b hb j u hj')) hB3.size)).trans ((hB3.cell (World.block_lt_of_cell? _ _ (HOL.out b hb j u hj'))).trans (HOL.out b hb j u hj')))
          have HD3 : Hid (([Value.slice A3 s.length c3] ++ dr.map (fun p : Value × List Int => p.1)).length = (1 + dr.length) * 1) := Lib.hid (by simp; omega)
          have HD4 : Hid (∀ j u, ([Value.slice A3 s.length c3] ++ dr.map (fun p : Value × List Int => p.1))[j]? = some u → w4.cell? ((⟨g4, 0, none⟩ : Addr).add j) = some u) := Lib.hid fun j u hj' => HO4.out.cells rfl j u hj'
          have HD5 : Hid (∀ u ∈ [Value.slice A3 s.length c3] ++ dr.map (fun p : Value × List Int => p.1), u.oneCell' = true) := Lib.hid (by
            intro u hu
            rcases List.mem_append.1 hu with hu | hu
            · rw [List.mem_singleton.1 hu]; rfl
            · obtain ⟨x, hx, rfl⟩ := List.mem_map.1 hu
              exact HON.out x hx _ (List.mem_singleton.2 rfl))
          have HD6 : Hid (k < k + (1 + dr.length)) := Lib.hid (by omega)
          have HD7 : Hid (k + (1 + dr.length) ≤ maxLen) := Lib.hid (by have := HDL.out; simp only [maxLen]; omega)
          have HD8 : Hid ((k + (1 + dr.length)) * 24 ≤ 140737488355328) := Lib.hid (by have := HDL.out; omega)
          go_wp2_with (at_builtin; refine wpList_append_grows _ rfl _ _ 22 rfl 23 i0 (.slice none 0 0) 1 24 Tryz.underlying22 hi hz0 hz1 hz2 rfl (by decide) _ k k (tk.map (fun p : Value × List Int => p.1)) rfl HNN.out HD1.out HD2.out ⟨g4, 0, none⟩ (1 + dr.length) c4 ([.slice A3 s.length c3] ++ dr.map (fun p : Value × List Int => p.1)) rfl HD3.out HD4.out HD5.out HD6.out HD7.out HD8.out ?_)
          intro v5 w5 hown5 hgrow5
          have hB5 : Below w4.heap.size w4 w5 := (Below.refl _ w4).grown hgrow5 (Nat.le_refl _) (fun k e => by cases e)
          obtain ⟨A5, c5, rfl⟩ := own_form hown5
          have HO5 := Lib.hid hown5
          clear hown5 hgrow5
          go_wp2_with fail
          go_ret
          refine ⟨_, rfl, ?_, bAfter HBX'.out (bAfter (bAfter hB3 hB4) hB5)⟩
          have hE : (tk ++ (Value.slice A3 s.length c3, s) :: dr).map (·.1) = (tk).map (·.1) ++ ([.slice A3 s.length c3] ++ (dr).map (·.1)) := by simp
          have hlenE : (tk ++ (Value.slice A3 s.length c3, s) :: dr).length = k + (1 + (dr).length) := by have := HTL.out; simp; omega
          have hrow : w5.ownsRow w4.heap.size 23 1 (.slice A5 (k + (1 + (dr).length)) c5) (tk ++ (Value.slice A3 s.length c3, s) :: dr).length ((tk ++ (Value.slice A3 s.length c3, s) :: dr).map (·.1)) := by rw [hE, hlenE]; exact HO5.out
          refine ⟨tk ++ (Value.slice A3 s.length c3, s) :: dr, ?_, own_S1 hrow, fun p hp => ?_⟩
          · rw [HN.out, List.map_append, List.map_cons, HMM.out.1, HMM.out.2]
          · rcases List.mem_append.1 hp with hp | hp
            · exact (((HSE.out p (HTM.out p hp)).up hB3).up hB4).up hB5
            · rcases List.mem_cons.1 hp with rfl | hp
              · exact ((own_S1 HO3.out).up hB4).up hB5
              · exact (((HSE.out p (HDM.out p hp)).up hB3).up hB4).up hB5
end Go.Proofs.YtbmdfnifbimfmaaGreatDoor
