/- The search by induction; hitting; a range over it. -/
import Derived.Test.YtbmdfnifbimfmaaGreatDoorG4
namespace Go.Proofs.YtbmdfnifbimfmaaGreatDoor
open Go.RowKit Go.Shelf
attribute [local go_sem] Oper.semAt_some

theorem search_any (K : FK) (lp m0 : Nat) (J Jx : JT) (hJ : JIt K J) (hJx : JIt K Jx) (hY : YieldOk K m0 lp J Jx) : ∀ (m : Nat) (now : List Int) (fr : Int → Bool) (pre : List (Value × List Int)) (W : World), unhit K.S now < m → SPre K J now fr pre W →
    Calls Tryz.prog 52 #[K.p, .func (.yield lp) #[] #[]] W (SearchPost K W now fr pre J Jx)
  | 0, _, _, _, _, h, _ => absurd h (by omega)
  | m + 1, now, fr, pre, W, h, hp => search_step K lp m0 J Jx hJ hJx hY now fr pre W hp fun now' fr' pre' W' hlt hp' => search_any K lp m0 J Jx hJ hJx hY m now' fr' pre' W' (by omega) hp'

theorem SPre.start {K : FK} {J : JT} {W : World} (hF : Fam K W [] (fun _ => true)) (h : J [] W) : SPre K J [] (fun _ => true) [] W :=
  ⟨List.nodup_nil, (by simpa using unhit_le K.S []), (fun _ h => nomatch h), (fun _ h => nomatch h), hF, h⟩

theorem hitting_any (K : FK) (W : World) : Calls Tryz.prog 34 #[K.p] W fun e W' => e = .returned (.func (.func 51) #[] #[.pointer (some ⟨W.heap.size, 0, none⟩)]) ∧ W' = W.alloc (.cells #[K.p] 51) := by
  go_enter Tryz.func34, Tryz.ntmps34
  go_wp2
  go_ret
  exact ⟨rfl, rfl⟩

theorem hitting1_any (K : FK) (lp m0 Bx : Nat) (J Jx : JT) (hJ : JIt K J) (hJx : JIt K Jx) (hY : YieldOk K m0 lp J Jx) (W : World) (hF : Fam K W [] (fun _ => true)) (h0 : J [] W) (hx : W.cell? ⟨Bx, 0, none⟩ = some K.p) :
    Calls Tryz.prog 51 #[.func (.yield lp) #[] #[], .pointer (some ⟨Bx, 0, none⟩)] W fun e W' => (∃ v, e = .returned v) ∧
      ∃ ys : List (Value × List Int), (Outs K.S [] (fun _ => true) (ys.map (·.2)) ∧ J ys W') ∨ (Part K.S [] (fun _ => true) (ys.map (·.2)) ∧ Jx ys W') := by
  have H := Lib.hid (search_any K lp m0 J Jx hJ hJx hY (unhit K.S [] + 1) [] (fun _ => true) [] W (by omega) (SPre.start hF h0))
  clear hJ hJx hY hF h0
  go_enter Tryz.func51, Tryz.ntmps51
  go_wp2_with fail
  refine H.out.mono ?_
  rintro e w1 ⟨b, ys, rfl, _, _, h⟩
  have HH := Lib.hid h
  clear h
  go_wp2_with fail
  go_end0
  refine ⟨⟨_, rfl⟩, ys, ?_⟩
  rcases HH.out with ⟨_, h1, h2⟩ | ⟨_, h1, h2⟩
  · exact .inl ⟨h1, h2⟩
  · exact .inr ⟨h1, h2⟩
theorem eg_hitting1 : ∀ args w, (callFunc 51 args).run Tryz.prog w = .ok (.enter 51 args) w := enters_of Tryz.func51 (by kernel_rfl) rfl

/-- How the body of a round may be left. -/
def famPost (K : FK) (B : Nat) (I : JT) (Ix : Code → JT) (xs : List (Value × List Int)) (W : World) : Exit → Act → World → Prop
  | .normal, _, W' => KeepsFrom B W W' ∧ KpB K W W' ∧ I xs W'
  | .ret, _, W' => KeepsFrom B W W' ∧ KpB K W W' ∧ Ix .ret xs W'
  | .exit id, _, W' => KeepsFrom B W W' ∧ KpB K W W' ∧ Ix (.exit id) xs W'
  | .goto t, _, W' => KeepsFrom B W W' ∧ KpB K W W' ∧ Ix (.goto t) xs W'
  | .panic _, _, _ => False
  | .outgrown, _, _ => False

theorem kpB_putObj {K : FK} {W : World} {l : Nat} {o : Obj} (o' : Obj) (hl : K.base ≤ l) (h : W.heap[l]? = some o) (ho : o.isCells = false) : KpB K W (W.putObj l o') := by
  refine ⟨by simp [World.putObj], fun k _ h2 => World.putObj_heap_other (by omega), fun k cs hk hc => ?_⟩
  by_cases e : k = l
  · subst e; rw [hc] at h; injection h with h; subst h; cases ho
  · exact (World.putObj_heap_other e).trans hc
theorem nowB_ne {K : FK} {A : World} {now : List Int} {fr : Int → Bool} (hF : Fam K A now fr) {k : Nat} {o : Obj} (h : A.heap[k]? = some o) (ho : o.isCells = false) : some k ≠ nowB K A := by
  intro e
  obtain ⟨nv, hnv, _, hrow⟩ := hF.2.nowB
  rw [hnv] at e
  rcases hrow.2 with ⟨rfl, _⟩ | ⟨g, cap, cur, rfl, _, hg, _⟩
  · cases e
  · obtain rfl : k = g := Option.some.inj e
    rw [hg] at h; injection h with h; subst h; cases ho
theorem FIt.record {K : FK} {A B : World} {now : List Int} {fr : Int → Bool} (hF : Fam K A now fr) (hI : FIt K A B) {k : Nat} {o : Obj} (hk : K.base ≤ k) (h : A.heap[k]? = some o) (ho : o.isCells = false) : B.heap[k]? = some o :=
  (hI.same k (Array.getElem?_eq_some_iff.1 h).1 (.inr hk) (nowB_ne hF h ho)).trans h

theorem nowB_lt {K : FK} {A : World} {now : List Int} {fr : Int → Bool} (hF : Fam K A now fr) (g : Nat) (e : nowB K A = some g) : g < A.heap.size := by
  obtain ⟨nv, hnv, _, hrow⟩ := hF.2.nowB
  exact (hrow.lt g (hnv.symm.trans e)).2
/-- A range over the hitting sets. -/
theorem range_fam {n : Nat} {g : Operand} {ps : Array Tmp} {assign body : Code} {Q : Exit → Act → World → Prop} {a : Act} {w : World} (K : FK) (Bx : Nat) (hn : 1 ≤ n)
    (hg : a.eval g = .func (.func 51) #[] #[.pointer (some ⟨Bx, 0, none⟩)]) (hps : ps.size = 1) (hF : Fam K w [] (fun _ => true)) (hBx : w.cell? ⟨Bx, 0, none⟩ = some K.p)
    (I : JT) (Ix : Code → JT) (hI : OwnFrom w.heap.size I) (hIx : ∀ c, OwnFrom w.heap.size (Ix c)) (hIi : JIt K I) (hIxi : ∀ c, JIt K (Ix c)) (h0 : I [] w) (a₁ : Value → Act)
    (hassign : ∀ (l : Nat) (u : Value) (W : World) (K' : Act → World → Prop), K' (a₁ u) W →
      assign.wpIn (Fence.wide.inRound l) (n - 1 - 1) Tryz.prog (Exit.then K' (fun _ _ _ => False)) { tmps := (ps.zip #[u]).foldl (fun t (p, v) => t.setIfInBounds p v) a.tmps, defers := [] } W)
    (hbody : ∀ (l : Nat) (pre : List (Value × List Int)) (u : Value) (T : List Int) (W : World), w.heap.size ≤ l → I pre W → LRow K W u T → T.length ≤ 1000000 → (∀ g, nowB K W = some g → g < W.heap.size) → body.wpIn (Fence.wide.inRound l) (n - 1 - 1) Tryz.prog (famPost K w.heap.size I Ix (pre ++ [(u, T)]) W) (a₁ u) W)
    (hdone : ∀ (D : Nat) (ys : List (Value × List Int)) (W : World), w.heap.size ≤ D → Outs K.S [] (fun _ => true) (ys.map (·.2)) → I ys W → W.heap[D]? = some (.deferred (some [])) → Q .normal { a with defers := { target := .collected D, args := #[] } :: a.defers } W)
    (hstop : ∀ (D : Nat) (c : Code) (ys : List (Value × List Int)) (W : World), w.heap.size ≤ D → Part K.S [] (fun _ => true) (ys.map (·.2)) → Ix c ys W → W.heap[D]? = some (.deferred (some [])) → c.wpIn Fence.wide n Tryz.prog Q { a with defers := { target := .collected D, args := #[] } :: a.defers } W) :
    (Code.rangeFunc g ps assign body).wpIn Fence.wide n Tryz.prog Q a w := by
  refine wpIn_rangeFunc ?_
  intro fn hfn
  obtain ⟨rec, hrec⟩ : ∃ rec : LoopState → Option Code → Loop, rec = fun st pe => { state := st, pending := pe, fn, tmps := a.tmps, params := ps, assign, body, defers := w.heap.size } := ⟨_, rfl⟩
  obtain ⟨W1, hW1⟩ : ∃ W1, (w.alloc (.deferred (some []))).alloc (.loop (rec .ready none)) = W1 := ⟨_, rfl⟩
  have hbase := hF.1.rng.2
  have hL1 : W1.heap[w.heap.size + 1]? = some (.loop (rec .ready none)) := by
    rw [← hW1]; have := World.alloc_heap_new (w.alloc (.deferred (some []))) (.loop (rec .ready none)); rwa [World.size_alloc] at this
  have hK1 : W1.heap[w.heap.size]? = some (.deferred (some [])) := by
    rw [← hW1]; exact (Below.heap_alloc _ _ _ (by simp)).trans (World.alloc_heap_new w _)
  have hI1 : I [] W1 := by rw [← hW1]; exact hI.alloc _ (hI.alloc _ h0)
  have hb1 : Below w.heap.size w W1 := by rw [← hW1]; exact ((Below.refl _ w).alloc (Nat.le_refl _) _).alloc (by simp) _
  refine ⟨w.heap.size + 1, [{ target := .collected w.heap.size, args := #[] }], W1, { target := .fn (.func 51) #[.pointer (some ⟨Bx, 0, none⟩)], args := #[.func (.yield (w.heap.size + 1)) #[] #[]] }, W1, 51,
    #[.func (.yield (w.heap.size + 1)) #[] #[]] ++ #[.pointer (some ⟨Bx, 0, none⟩)], W1, ?_, ?_, fun _ _ => trivial, ?_, fun _ => hn, (callsIn_wide).2 ?_⟩
  · rw [← hW1, hrec]; exact run_enterLoop_outer _ _ _ _ _
  · simp only [resolve, hg]
    simp [go_sem]
  · simp [invoke, go_sem]
  · refine (hitting1_any K (w.heap.size + 1) (n - 1 - 1) Bx
      (fun pre W => I pre W ∧ W.heap[w.heap.size + 1]? = some (.loop (rec .ready none)) ∧ W.heap[w.heap.size]? = some (.deferred (some [])))
      (fun pre W => ∃ c, Ix c pre W ∧ W.heap[w.heap.size + 1]? = some (.loop (rec .done (some c))) ∧ W.heap[w.heap.size]? = some (.deferred (some [])))
      (fun s A B now fr hs hFA hAB => ⟨hIi s A B now fr hs.1 hFA hAB, hAB.record hFA (by omega) hs.2.1 rfl, hAB.record hFA (by omega) hs.2.2 rfl⟩)
      (fun s A B now fr ⟨c, hc, hl, hk⟩ hFA hAB => ⟨c, hIxi c s A B now fr hc hFA hAB, hAB.record hFA (by omega) hl rfl, hAB.record hFA (by omega) hk rfl⟩)
      ?_ W1 (hF.up hb1).1 ⟨hI1, hL1, hK1⟩ ((hb1.cell (World.block_lt_of_cell? _ _ hBx)).trans hBx)).mono ?_
    · rintro pre u T W now fr ⟨hi, hl, hk⟩ hFW hLW hT
      have hlt : w.heap.size + 1 < W.heap.size := (Array.getElem?_eq_some_iff.1 hl).1
      have hy := run_yield (P := Tryz.prog) (args := #[u]) hl (by rw [hrec]; exact hps.symm)
      rw [hrec] at hy
      refine ⟨fn, _, assign, body, hy, roundIn_of_wpIn hfn (hassign _ u W _ ?_)⟩
      clear hy
      refine ⟨_, run_beginRound hl (by rw [hrec]), ?_⟩
      have hl2 : (W.putObj (w.heap.size + 1) (.loop { rec .ready none with state := .busy })).heap[w.heap.size + 1]? = some (.loop { rec .ready none with state := .busy }) := World.putObj_heap_same hlt
      have hk2 : (W.putObj (w.heap.size + 1) (.loop { rec .ready none with state := .busy })).heap[w.heap.size]? = some (.deferred (some [])) := (World.putObj_heap_other (by omega)).trans hk
      have hw2 : KpB K W (W.putObj (w.heap.size + 1) (.loop { rec .ready none with state := .busy })) := kpB_putObj _ (by omega) hl rfl
      refine wpIn_mono (hbody _ pre u T _ (by omega) (hI.putObj _ hi (by omega) hl rfl) (KpB.rows hFW hw2 _ _ hLW) hT (nowB_lt (hFW.kp hw2).1)) ?_
      have fin : ∀ (jump : Option Code) (W3 : World), KeepsFrom w.heap.size (W.putObj (w.heap.size + 1) (.loop { rec .ready none with state := .busy })) W3 →
          (Instr.endRound (w.heap.size + 1) jump).run Tryz.prog W3 = .ok (.bool jump.isNone) (W3.putObj (w.heap.size + 1) (.loop (rec (if jump.isNone then .ready else .done) jump))) ∧
          W3.heap[w.heap.size + 1]? = some (.loop { rec .ready none with state := .busy }) ∧
          (W3.putObj (w.heap.size + 1) (.loop (rec (if jump.isNone then .ready else .done) jump))).heap[w.heap.size + 1]? = some (.loop (rec (if jump.isNone then .ready else .done) jump)) ∧
          (W3.putObj (w.heap.size + 1) (.loop (rec (if jump.isNone then .ready else .done) jump))).heap[w.heap.size]? = some (.deferred (some [])) := fun jump W3 hk3 => by
        have hl3 := hk3.same _ _ (by omega) hl2 rfl
        have := run_endRound (P := Tryz.prog) jump hl3
        rw [hrec] at this ⊢
        exact ⟨this, by rw [hrec] at hl3; exact hl3, World.putObj_heap_same (Array.getElem?_eq_some_iff.1 hl3).1, (World.putObj_heap_other (by omega)).trans (hk3.same _ _ (Nat.le_refl _) hk2 rfl)⟩
      rintro e a3 W3 hp
      cases e with
      | normal =>
        obtain ⟨hk3, hkp3, hi3⟩ := hp
        obtain ⟨hr, hl3, hl4, hk4⟩ := fin none W3 hk3
        exact ⟨_, _, hr, (hw2.trans hkp3).trans (kpB_putObj _ (by omega) hl3 rfl), .inl ⟨rfl, hI.putObj _ hi3 (by omega) hl3 rfl, hl4, hk4⟩⟩
      | ret =>
        obtain ⟨hk3, hkp3, hi3⟩ := hp
        obtain ⟨hr, hl3, hl4, hk4⟩ := fin (some .ret) W3 hk3
        exact ⟨_, _, hr, (hw2.trans hkp3).trans (kpB_putObj _ (by omega) hl3 rfl), .inr ⟨rfl, .ret, (hIx _).putObj _ hi3 (by omega) hl3 rfl, hl4, hk4⟩⟩
      | exit id =>
        obtain ⟨hk3, hkp3, hi3⟩ := hp
        obtain ⟨hr, hl3, hl4, hk4⟩ := fin (some (.exit id)) W3 hk3
        exact ⟨_, _, hr, (hw2.trans hkp3).trans (kpB_putObj _ (by omega) hl3 rfl), .inr ⟨rfl, .exit id, (hIx _).putObj _ hi3 (by omega) hl3 rfl, hl4, hk4⟩⟩
      | goto t =>
        obtain ⟨hk3, hkp3, hi3⟩ := hp
        obtain ⟨hr, hl3, hl4, hk4⟩ := fin (some (.goto t)) W3 hk3
        exact ⟨_, _, hr, (hw2.trans hkp3).trans (kpB_putObj _ (by omega) hl3 rfl), .inr ⟨rfl, .goto t, (hIx _).putObj _ hi3 (by omega) hl3 rfl, hl4, hk4⟩⟩
      | panic ch => exact hp.elim
      | outgrown => exact hp.elim
    · rintro e W2 ⟨⟨v, rfl⟩, ys, (⟨hS, hi, hl, hk⟩ | ⟨hSp, c, hi, hl, hk⟩)⟩
      · exact ⟨none, _, by have := run_endLoop (P := Tryz.prog) hl (by rw [hrec]; simp); rw [hrec] at this; exact this, hdone _ ys _ (Nat.le_refl _) hS (hI.putObj _ hi (by omega) hl rfl) ((World.putObj_heap_other (by omega)).trans hk)⟩
      · exact ⟨some c, _, by have := run_endLoop (P := Tryz.prog) hl (by rw [hrec]; simp); rw [hrec] at this; exact this, hstop _ c ys _ (Nat.le_refl _) hSp ((hIx c).putObj _ hi (by omega) hl rfl) ((World.putObj_heap_other (by omega)).trans hk)⟩
end Go.Proofs.YtbmdfnifbimfmaaGreatDoor
