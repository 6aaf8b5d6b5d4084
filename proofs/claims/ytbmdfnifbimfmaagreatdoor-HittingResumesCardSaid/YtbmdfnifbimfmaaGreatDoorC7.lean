/- Walks: Clone and Insert at lists of lists; a range over branches. -/
import Derived.Test.YtbmdfnifbimfmaaGreatDoorC6
import Derived.Test.YtbmdfnifbimfmaaGreatDoorR3
namespace Go.Proofs.YtbmdfnifbimfmaaGreatDoor
open Go.RowKit Go.Shelf
attribute [local go_sem] Oper.semAt_some

set_option maxRecDepth 100000 in
theorem cloneSS_any (v : Value) (ps : List (Value × List Int)) (w : World) (h : SP w v ps) (hl : ps.length ≤ 1000000) :
    Calls Tryz.prog 38 #[v] w fun e w' => ∃ v', e = .returned v' ∧ OwnP w' w.heap.size v' ps ∧ Below w.heap.size w w' := by
  obtain ⟨A, c, rfl, hc, hm, hA⟩ := h.1.form
  rcases A with _ | a
  · have h0 : ps.length = 0 := by
      rcases Nat.eq_zero_or_pos ps.length with h0 | h0
      · exact h0
      · obtain ⟨_, _, e, _⟩ := hA h0; cases e
    have : ps = [] := List.eq_nil_of_length_eq_zero h0
    subst this
    refine (Tryz.slices_Clone_nilSS _ c w).mono ?_
    rintro e w' ⟨rfl, rfl⟩
    exact ⟨_, rfl, OwnP.nil _ _, Below.refl _ _⟩
  · have HP := Lib.hid h
    have HON : Hid (∀ x ∈ ps, ∀ u ∈ enc1 (fun p : Value × List Int => p.1) x, u.oneCell' = true) := Lib.hid (one_pairs h.2)
    obtain ⟨i0, hi, hz0, hz1, hz2⟩ := info_parts infoS
    have HM : Hid (0 + ps.length ≤ maxLen) := Lib.hid (by simp only [maxLen]; omega)
    have HM2 : Hid ((0 + ps.length) * 24 ≤ 140737488355328) := Lib.hid (by omega)
    have HMADE : Hid ((w.alloc (.cells #[] 23)).ownsRow w.heap.size 23 1 (.slice (some ⟨w.heap.size, 0, none⟩) 0 0) 0 []) := Lib.hid (World.ownsRow_made w #[] 0 (Nat.le_refl _) (by simp [maxLen]) rfl)
    have HSZ : Hid (w.heap.size ≤ (w.alloc (.cells #[] 23)).heap.size) := Lib.hid (by simp)
    have q22 : (binOp .eql 22 (.slice (some a) ps.length c) (.slice none 0 0)).run Tryz.prog w = .ok (.bool false) w := Lib.run_eql_slice_nil w _ _ (some a) ps.length c 0 0 Tryz.underlying22
    clear h hA hm
    go_enter Tryz.func38, Tryz.ntmps38
    go_wp2_with (at_builtin; refine wpList_append_sl _ (enc1 fun p : Value × List Int => p.1) rfl _ _ 22 rfl w.heap.size 23 i0 (.slice none 0 0) 1 24 Tryz.underlying22 hi hz0 hz1 hz2 rfl (by decide) _ _ _ rfl HMADE.out _ _ ps (fun _ => rfl) rfl (S1.al HP.out.1 _) HON.out HM.out HM2.out HSZ.out ?_)
    intro v' w' hown hgrow _
    rw [flat1] at hown
    obtain ⟨A1, c1, hf⟩ := own_form hown
    subst hf
    have HR : Hid (w'.ownsRow w.heap.size 23 1 (.slice A1 ps.length c1) ps.length (ps.map (·.1))) := Lib.hid hown
    have hB : Below w.heap.size w w' := ((Below.refl _ w).alloc (Nat.le_refl _) _).grown hgrow (by simp) (fun k e => by cases e; exact Nat.le_refl _)
    have HB := Lib.hid hB
    clear hown hgrow hB
    go_wp2_with fail
    go_ret
    refine ⟨_, rfl, ⟨HR.out, fun p hp => ⟨(HP.out.2 p hp).up HB.out, fun a n c e hn e' => ?_⟩⟩, HB.out⟩
    have h1 := (HP.out.2 p hp).block_lt e hn
    have h2 := (HR.out.lt _ e'.symm).1
    omega

/-- The call puts p at place k of the row v. -/
def InsSSPost (w : World) (base : Nat) (v : Value) (ps : List (Value × List Int)) (e : Ending) (w' : World) : Prop := ∃ v', e = .returned v' ∧ OwnP w' base v' ps ∧ w.grownBy w' v.ownBlock ∧ ∀ g, v'.ownBlock = some g → v.ownBlock = some g ∨ w.heap.size ≤ g
def InsSSAt (n k : Nat) : Prop := ∀ (base : Nat) (v : Value) (ps : List (Value × List Int)) (p : Value × List Int) (vb : Nat) (w : World), ps.length = n → OwnP w base v ps → Blk w vb 23 #[p.1] → SI w p.1 p.2 → Apart p.1 v.ownBlock → v.ownBlock ≠ some vb → base ≤ w.heap.size → n ≤ 1000000 →
  Calls Tryz.prog 40 #[v, .int .i64 k, .slice (some ⟨vb, 0, none⟩) 1 1] w (InsSSPost w base v (insAt ps k p))

set_option maxRecDepth 100000 in
set_option maxHeartbeats 1000000 in
theorem insSS_end (n : Nat) : InsSSAt n n := by
  intro base v ps p vb w hn h hx hp hap hne hb hl
  obtain ⟨A, c, hf⟩ := own_form h.1
  have hcap : ps.length ≤ c := by
    rcases h.1.2 with ⟨e, h0⟩ | ⟨g, cap, cur, e, _, _, hc, _⟩
    · omega
    · rw [hf] at e; injection e with _ _ e; omega
  subst hf
  obtain ⟨i0, hi, hz0, hz1, hz2⟩ := info_parts infoS
  have HP := Lib.hid h
  have HSI := Lib.hid hp
  have HAP := Lib.hid hap
  have hcut : ∀ W, ∃ A' c', (Instr.slice 22 (.slice A ps.length c) (some (.int .i64 (n : Int))) none none).run Tryz.prog W = .ok (.slice A' 0 c') W := fun W => by
    obtain ⟨Ad, hr, _⟩ := cut_from uS zS h.sp.1 (n := n) (by omega)
    refine ⟨Ad, c - n, ?_⟩
    have := hr W
    rw [show ps.length - n = 0 by omega] at this
    exact this
  obtain ⟨A', c', hcw⟩ := hcut w
  have hcell : w.cell? ⟨vb, 0, none⟩ = some p.1 := hx.cell 0
  have HC1 : Hid (∀ (j : Nat) (u : Value), [p.1][j]? = some u → w.cell? ((⟨vb, 0, none⟩ : Addr).add j) = some u) := Lib.hid fun j u hj => by
    rw [add_lit, Nat.zero_add, hx.cell j]; simpa using hj
  have HC2 : Hid (∀ u ∈ [p.1], u.oneCell' = true) := Lib.hid (one_of_form (by obtain ⟨A, c, e⟩ := SI.slice_form hp; exact ⟨_, _, _, e⟩))
  have HC3 : Hid (ps.length + 1 ≤ maxLen) := Lib.hid (by simp only [maxLen]; omega)
  have HC4 : Hid ((ps.length + 1) * 24 ≤ 140737488355328) := Lib.hid (by omega)
  have q : (n : Int) = (ps.length : Int) := by omega
  have HN := Lib.hid hn
  clear h hp hap hx hcut hcell
  subst hn
  clear q
  go_enter Tryz.func40, Tryz.ntmps40
  go_wp2_with (at_builtin; refine wpList_append_own_at _ rfl _ _ 22 rfl base 23 i0 (.slice none 0 0) 1 24 Tryz.underlying22 hi hz0 hz1 hz2 rfl (by decide) _ _ _ rfl HP.out.1 ⟨vb, 0, none⟩ 1 1 [p.1] rfl rfl HC1.out HC2.out HC3.out HC4.out hb ?_)
  intro v' w' hown hgrow _ hat
  have HQ : Hid (OwnP w' base v' (ps ++ [p])) := Lib.hid (HP.out.snoc (u := p.1) (l := p.2) rfl rfl hown hgrow hat HSI.out HAP.out)
  have HG := Lib.hid hgrow
  have HAT : Hid (∀ g, v'.ownBlock = some g → (Value.slice A ps.length c).ownBlock = some g ∨ w.heap.size ≤ g) := Lib.hid fun g hg => by
    rcases hat with h | h
    · exact .inl (h ▸ hg)
    · rw [h] at hg; injection hg with hg; exact .inr (by omega)
  obtain ⟨A1, c1, hf⟩ := own_form hown
  subst hf
  clear hown hgrow hat
  go_wp2_with fail
  go_ret
  exact ⟨_, rfl, by rw [insAt_end]; exact HQ.out, HG.out, HAT.out⟩

/-- A range over an iterator that makes new blocks alone; the body goes on each time. -/
theorem range_new {Z : Nat → List Int → Prop} {n : Nat} {g : Operand} {ps : Array Tmp} {assign body : Code} {Q : Exit → Act → World → Prop} {a : Act} {w : World} (P : Nat → Prop) (S : List (Value × List Int) → Prop) (gf : Nat) (lb : Array Value) (hn : 1 ≤ n)
    (hg : a.eval g = .func (.func gf) #[] lb) (eg : ∀ args w, (callFunc gf args).run Tryz.prog w = .ok (.enter gf args) w) (hps : ps.size = 1) (hP : ∀ k, P k → k < w.heap.size)
    (hit : ∀ (lp : Nat) (J : JT') (W : World), Below w.heap.size w W → JUp J → YieldB P Z W.heap.size (n - 1 - 1) lp J → J [] W → Calls Tryz.prog gf (#[.func (.yield lp) #[] #[]] ++ lb) W fun e W' => (∃ v, e = .returned v) ∧ ∃ ys, S ys ∧ J ys W')
    (I : JT') (hI : OwnFrom w.heap.size I) (h0 : I [] w) (a₁ : Value → Act)
    (hassign : ∀ (l : Nat) (u : Value) (W : World) (K' : Act → World → Prop), K' (a₁ u) W →
      assign.wpIn (Fence.wide.inRound l) (n - 1 - 1) Tryz.prog (Exit.then K' (fun _ _ _ => False)) { tmps := (ps.zip #[u]).foldl (fun t (p, v) => t.setIfInBounds p v) a.tmps, defers := [] } W)
    (hbody : ∀ (l : Nat) (pre : List (Value × List Int)) (u : Value) (T : List Int) (W : World), w.heap.size ≤ l → I pre W → W.ownsRow w.heap.size 3 1 u T.length (T.map iV) → Z pre.length T → body.wpIn (Fence.wide.inRound l) (n - 1 - 1) Tryz.prog
      (fun e _ W' => e = .normal ∧ KeepsFrom w.heap.size W W' ∧ (∀ k, P k → W'.heap[k]? = W.heap[k]?) ∧ I (pre ++ [(u, T)]) W') (a₁ u) W)
    (hdone : ∀ (D : Nat) (ys : List (Value × List Int)) (W : World), w.heap.size ≤ D → S ys → I ys W → W.heap[D]? = some (.deferred (some [])) → Q .normal { a with defers := { target := .collected D, args := #[] } :: a.defers } W) :
    (Code.rangeFunc g ps assign body).wpIn Fence.wide n Tryz.prog Q a w := by
  refine wpIn_rangeFunc ?_
  intro fn hfn
  obtain ⟨rec, hrec⟩ : ∃ rec : LoopState → Option Code → Loop, rec = fun st pe => { state := st, pending := pe, fn, tmps := a.tmps, params := ps, assign, body, defers := w.heap.size } := ⟨_, rfl⟩
  obtain ⟨W1, hW1⟩ : ∃ W1, (w.alloc (.deferred (some []))).alloc (.loop (rec .ready none)) = W1 := ⟨_, rfl⟩
  have hL1 : W1.heap[w.heap.size + 1]? = some (.loop (rec .ready none)) := by
    rw [← hW1]; have := World.alloc_heap_new (w.alloc (.deferred (some []))) (.loop (rec .ready none)); rwa [World.size_alloc] at this
  have hK1 : W1.heap[w.heap.size]? = some (.deferred (some [])) := by
    rw [← hW1]; exact (Below.heap_alloc _ _ _ (by simp)).trans (World.alloc_heap_new w _)
  have hI1 : I [] W1 := by rw [← hW1]; exact hI.alloc _ (hI.alloc _ h0)
  have hb1 : Below w.heap.size w W1 := by rw [← hW1]; exact ((Below.refl _ w).alloc (Nat.le_refl _) _).alloc (by simp) _
  refine ⟨w.heap.size + 1, [{ target := .collected w.heap.size, args := #[] }], W1, { target := .fn (.func gf) lb, args := #[.func (.yield (w.heap.size + 1)) #[] #[]] }, W1, gf,
    #[.func (.yield (w.heap.size + 1)) #[] #[]] ++ lb, W1, ?_, ?_, fun _ _ => trivial, ?_, fun _ => hn, (callsIn_wide).2 ?_⟩
  · rw [← hW1, hrec]; exact run_enterLoop_outer _ _ _ _ _
  · simp only [resolve, hg]
    simp [go_sem]
  · simp [invoke, go_sem, eg]
  · refine (hit (w.heap.size + 1)
      (fun pre W => I pre W ∧ W.heap[w.heap.size + 1]? = some (.loop (rec .ready none)) ∧ W.heap[w.heap.size]? = some (.deferred (some [])))
      W1 hb1
      (fun s A B hs hAB => ⟨hI s A B none hs.1 ⟨hAB.os, hAB.tape, hAB.output, hAB.size, fun k hk _ => hAB.block k hk⟩ (fun r e => by cases e), (hAB.block _ (Array.getElem?_eq_some_iff.1 hs.2.1).1).trans hs.2.1, (hAB.block _ (Array.getElem?_eq_some_iff.1 hs.2.2).1).trans hs.2.2⟩)
      ?_ ⟨hI1, hL1, hK1⟩).mono ?_
    · rintro pre u T W ⟨hi, hl, hk⟩ hu hT
      have hlt : w.heap.size + 1 < W.heap.size := (Array.getElem?_eq_some_iff.1 hl).1
      have hy := run_yield (P := Tryz.prog) (args := #[u]) hl (by rw [hrec]; exact hps.symm)
      rw [hrec] at hy
      refine ⟨fn, _, assign, body, hy, roundIn_of_wpIn hfn (hassign _ u W _ ?_)⟩
      clear hy
      refine ⟨_, run_beginRound hl (by rw [hrec]), ?_⟩
      have hl2 : (W.putObj (w.heap.size + 1) (.loop { rec .ready none with state := .busy })).heap[w.heap.size + 1]? = some (.loop { rec .ready none with state := .busy }) := World.putObj_heap_same hlt
      have hk2 : (W.putObj (w.heap.size + 1) (.loop { rec .ready none with state := .busy })).heap[w.heap.size]? = some (.deferred (some [])) := (World.putObj_heap_other (by omega)).trans hk
      have hu2 : (W.putObj (w.heap.size + 1) (.loop { rec .ready none with state := .busy })).ownsRow w.heap.size 3 1 u T.length (T.map iV) := by
        refine own_block (ownsRow_base' hu hb1.size) fun g hg => World.putObj_heap_other fun e => ?_
        subst e
        rcases hu.2 with ⟨rfl, _⟩ | ⟨g', cap, cur, rfl, _, hgg, _⟩
        · cases hg
        · have e' : g' = w.heap.size + 1 := Option.some.inj hg
          rw [e'] at hgg
          rw [hgg] at hl; cases hl
      refine wpIn_mono (hbody _ pre u T _ (by omega) (hI.putObj _ hi (by omega) hl rfl) hu2 hT) ?_
      rintro e a3 W3 ⟨rfl, hk3, hp3, hi3⟩
      have hl3 := hk3.same _ _ (by omega) hl2 rfl
      have hr := run_endRound (P := Tryz.prog) none hl3
      have hlt3 := (Array.getElem?_eq_some_iff.1 hl3).1
      rw [hrec] at hr
      refine ⟨_, _, hr, rfl, ⟨hI.putObj _ hi3 (by omega) hl3 rfl, ?_, ?_⟩, ?_, fun k hPk hkl => ?_⟩
      · rw [hrec]; exact World.putObj_heap_same hlt3
      · exact (World.putObj_heap_other (by omega)).trans (hk3.same _ _ (Nat.le_refl _) hk2 rfl)
      · have := hk3.size; simp at this; simp; omega
      · have hkw := hP k hPk
        exact (World.putObj_heap_other (by omega)).trans ((hp3 k hPk).trans (World.putObj_heap_other (by omega)))
    · rintro e W2 ⟨⟨v, rfl⟩, ys, hS, hi, hl, hk⟩
      exact ⟨none, _, by have := run_endLoop (P := Tryz.prog) hl (by rw [hrec]; simp); rw [hrec] at this; exact this, hdone _ ys _ (Nat.le_refl _) hS (hI.putObj _ hi (by omega) hl rfl) ((World.putObj_heap_other (by omega)).trans hk)⟩
end Go.Proofs.YtbmdfnifbimfmaaGreatDoor
