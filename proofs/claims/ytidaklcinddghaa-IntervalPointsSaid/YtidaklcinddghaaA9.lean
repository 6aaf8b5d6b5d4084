import Derived.Test.YtidaklcinddghaaA8
namespace Go.Proofs.Ytidaklcinddghaa
open Go.RowKit Go.Shelf
attribute [local go_sem] Oper.semAt_some

/-- What Without computes, where the sorted list is l'. -/
def RetWithout (w : World) (i : Int × Int) (l : List (Int × Int)) (e : Ending) (w' : World) : Prop :=
  ∃ v, ∃ l' x : List (Int × Int), (bothE i l = 0 → l'.Perm l ∧ l'.Pairwise (fun x y => x.1 ≤ y.1)) ∧ x = (if bothE i l = 0 then woL i.2 i.1 (joinL l') else []) ∧
    e = .returned (.tuple #[v, .int .i64 (bothE i l)]) ∧ w'.ownsRow w.heap.size 23 2 v x.length (x.flatMap encIv) ∧ Below w.heap.size w w'

set_option maxRecDepth 100000 in
set_option maxHeartbeats 4000000 in
theorem Without_no (i : Int × Int) (v : Value) (l : List (Int × Int)) (w : World) (h : SlIv w v l) (hk : bothE i l ≠ 0) :
    Calls Try.prog 15 #[ivV i, v] w (RetWithout w i l) := by
  have H := Lib.hid h
  clear h
  obtain ⟨k, hke⟩ : ∃ k, bothE i l = k := ⟨_, rfl⟩
  have HK := Lib.hid hke
  have hk1 : (k != 0) = true := neq_int_true (by rw [← hke]; exact hk)
  have HN := Lib.hid hk
  clear hk hke
  go_enter Try.func15, Try.ntmps15
  go_wp2_with fail
  refine (check_any i _).mono ?_
  rintro e w1 ⟨rfl, hB1⟩
  have hBa := bAfter (bAl (bAl (Below.refl _ w) _) _) hB1
  have b1 : Blk w1 (w.heap.size + 1) 24 #[.slice none 0 0] := bk hB1 (Blk.newAt _ _ _ (by simp))
  clear hB1
  go_wp2_with fail
  refine (checkAll_any _ l _ ((H.out.below hBa).more hBa.size)).mono ?_
  rintro e w2 ⟨rfl, hB2⟩
  replace b1 := bk hB2 b1
  replace hBa := bAfter hBa hB2
  clear hB2
  go_wp2_with fail
  refine (or_any _ (chk i) (chkAll l) _ ((Blk.new _ _ _).cell 0) ((Blk.new _ _ _).cell 1)).mono ?_
  rintro e w3 ⟨rfl, hB3⟩
  replace b1 := bk hB3 (b1.alloc _)
  replace hBa := bAfter (bAl hBa _) hB3
  clear hB3
  rw [show orE (chk i) (chkAll l) = k from HK.out]
  have c1 : w3.cell? ⟨w.heap.size + 1, 0, none⟩ = some (.slice none 0 0) := b1.cell 0
  have f1 := b1.frozen 0
  go_wp2_with fail
  have d1 := (b1.set_ 0 (.slice none 0 0)).cell 0
  simp only [List.setIfInBounds_toArray, List.set_cons_zero, List.getElem?_toArray, List.getElem?_cons_zero] at d1
  refine bodyPost_ret (v := .tuple #[.slice none 0 0, .int .i64 k]) (by simp [results, Try.results15, go_sem, d1]) rfl ?_
  exact ⟨_, [], [], fun h => absurd h HN.out, by rw [if_neg HN.out], by rw [HK.out], World.ownsRow_nil _ _ _ _, hBa.setCell (by simp) _⟩

theorem ownsRow_notCells {W W' : World} {base : Nat} {e : TypeId} {size : Nat} {v : Value} {k : Nat} {xs : List Value} {row : Option Nat} (h : W.ownsRow base e size v k xs) (hg : W.grownBy W' row) (hrow : ∀ r, row = some r → ∃ o : Obj, W.heap[r]? = some o ∧ o.isCells = false) : W'.ownsRow base e size v k xs := by
  refine h.kept hg ?_
  rcases h.2 with ⟨rfl, _⟩ | ⟨g, cap, cur, rfl, _, hgb, _⟩
  · exact .inl rfl
  · refine .inr fun e' => ?_
    obtain ⟨o, ho, hc⟩ := hrow g (by simpa [Value.ownBlock] using e'.symm)
    rw [hgb] at ho; cases ho; cases hc

/-- An append onto a row that lies from base on leaves what lies below it. -/
theorem app_keeps {W w1 : World} {base : Nat} {e : TypeId} {size : Nat} {v : Value} {k : Nat} {xs : List Value} {tmp : Obj} (hrow : W.ownsRow base e size v k xs) (hgrow : (W.alloc tmp).grownBy w1 v.ownBlock) :
    (∀ g t cs, g < base → Blk W g t cs → Blk w1 g t cs) ∧ (∀ b, b < base → b < W.heap.size → Keep1 b W w1) ∧ (∀ B, KeepsFrom B W w1) ∧ (∀ n, n ≤ base → n ≤ W.heap.size → Below n W w1) := by
  have hne : ∀ g, g < base → some g ≠ v.ownBlock := fun g hg e' => by have := (hrow.lt g e'.symm).1; omega
  refine ⟨fun g t cs hg hb => (hb.alloc tmp).grown hgrow (hne g hg), fun b hb hs => (keep1_alloc hs tmp).trans (hgrow.block b (by simp; omega) (hne b hb)), fun B => ?_, fun n hn hs => ?_⟩
  · refine ((KeepsOthers.alloc W tmp).trans (KeepsOthers.of_grownBy hgrow fun j o ej hj => ?_)).from B
    rcases (hrow.alloc tmp).2 with ⟨rfl, _⟩ | ⟨g, cap, cur, rfl, _, hgb, _⟩
    · simp [Value.ownBlock] at ej
    · obtain rfl : g = j := by simpa [Value.ownBlock] using ej
      rw [hgb] at hj; cases hj; rfl
  · exact ((Below.refl n W).alloc hs tmp).grown hgrow (by simp; omega) fun j ej => by have := (hrow.lt j ej).1; omega

theorem ownsRow_base {W : World} {base base' : Nat} {e : TypeId} {size : Nat} {v : Value} {k : Nat} {xs : List Value} (h : W.ownsRow base e size v k xs) (hle : base' ≤ base) : W.ownsRow base' e size v k xs := by
  refine ⟨h.1, ?_⟩
  rcases h.2 with h | ⟨g, cap, cur, h1, h2, h3⟩
  · exact .inl h
  · exact .inr ⟨g, cap, cur, h1, by omega, h3⟩

/-- Between two rounds: the box of i, the box of x, and what they are good for. -/
def WoI (w : World) (base : Nat) (i : Int × Int) (Q : Int → List (Int × Int) → Prop) (m : Nat) (W : World) : Prop :=
  ∃ (lo : Int) (out : List (Int × Int)) (v : Value), Blk W w.heap.size 23 #[.int .i64 lo, .int .i64 i.2] ∧ Blk W (w.heap.size + 1) 24 #[v] ∧ W.ownsRow base 23 2 v out.length (out.flatMap encIv) ∧
    out.length ≤ m ∧ -1099511627776 ≤ lo ∧ lo ≤ 1099511627777 ∧ Q lo out
theorem WoI.own {β : Type} (w : World) (base : Nat) (i : Int × Int) (Q : β → Int → List (Int × Int) → Prop) (m : β → Nat) : Own (fun s W => WoI w base i (Q s) (m s) W) := by
  rintro s A B row ⟨lo, out, v, h0, h1, hr, hl, hb1, hb2, hq⟩ hg hrow
  exact ⟨lo, out, v, blk_own _ _ (fun _ => _) s A B row h0 hg hrow, blk_own _ _ (fun _ => _) s A B row h1 hg hrow, ownsRow_notCells hr hg hrow, hl, hb1, hb2, hq⟩

set_option maxRecDepth 100000 in
set_option maxHeartbeats 4000000 in
theorem Without_yes (i : Int × Int) (v : Value) (l : List (Int × Int)) (w : World) (h : SlIv w v l) (hlen : l.length ≤ 1000000) (hk : bothE i l = 0) :
    Calls Try.prog 15 #[ivV i, v] w (RetWithout w i l) := by
  have H := Lib.hid h
  clear h
  have HK := Lib.hid hk
  obtain ⟨hk1, hk2⟩ := bothE_zero hk
  have HK1 := Lib.hid hk1
  have HK2 := Lib.hid hk2
  clear hk hk1 hk2
  refine (callsIn_wide (n := 6)).1 ?_
  refine callsIn_of_wp_marks Try.func15 rfl trivial ?_ rfl
  simp only [Try.ntmps15, List.size_toArray, List.length_cons, List.length_nil, Nat.reduceAdd, Nat.reduceSub, Array.replicate_succ, Array.replicate_zero, List.push_toArray, List.append_toArray, List.nil_append, List.cons_append]
  gi_wp2_with fail
  refine ⟨trivial, callsIn_wide.2 ?_⟩
  refine (check_any i _).mono ?_
  rintro e w1 ⟨rfl, hB1⟩
  have hBa := bAfter (bAl (bAl (Below.refl _ w) _) _) hB1
  have b0 : Blk w1 w.heap.size 23 #[.int .i64 i.1, .int .i64 i.2] := bk hB1 ((Blk.new _ _ _).alloc _)
  have b1 : Blk w1 (w.heap.size + 1) 24 #[.slice none 0 0] := bk hB1 (Blk.newAt _ _ _ (by simp))
  clear hB1
  gi_wp2_with fail
  refine ⟨trivial, callsIn_wide.2 ?_⟩
  refine (checkAll_any _ l _ ((H.out.below hBa).more hBa.size)).mono ?_
  rintro e w2 ⟨rfl, hB2⟩
  replace b0 := bk hB2 b0
  replace b1 := bk hB2 b1
  replace hBa := bAfter hBa hB2
  clear hB2
  gi_wp2_with fail
  refine ⟨trivial, callsIn_wide.2 ?_⟩
  refine (or_any _ (chk i) (chkAll l) _ ((Blk.new _ _ _).cell 0) ((Blk.new _ _ _).cell 1)).mono ?_
  rintro e w3 ⟨rfl, hB3⟩
  replace b0 := bk hB3 (b0.alloc _)
  replace b1 := bk hB3 (b1.alloc _)
  replace hBa := bAfter (bAl hBa _) hB3
  clear hB3
  rw [show orE (chk i) (chkAll l) = 0 from HK.out]
  gi_wp2_with fail
  refine ⟨trivial, callsIn_wide.2 ?_⟩
  refine (union_any _ l _ ((H.out.below hBa).more hBa.size) hlen).mono ?_
  rintro e w4 ⟨rfl, v2, l', hp, hs, hbox, hrow, hB4⟩
  have HS := Lib.hid hs
  obtain ⟨b, hb, hb1, hb2, hseq⟩ := union2_seq _ v2 l' (fun x hx => ok_of_chkAll HK2.out x (hp.subset hx)) w4 hbox.cell hbox.lt (own_sl hrow (Nat.le_refl _))
  have hbb := row_beyond hrow hb1 hb2 (Nat.le_refl _)
  have HSQ := Lib.hid (hseq 5 (by omega))
  have hb2' := b1.lt
  replace b0 := bk hB4 b0
  replace b1 := bk hB4 b1
  replace hBa := bAfter hBa hB4
  have hsz : w.heap.size + 1 < w4.heap.size := b1.lt
  clear hs hrow hbox hseq hB4 hb1 hb2
  gi_wp2_with fail
  obtain ⟨i0, hi, hz0, hz1, hz2⟩ := info_parts info23
  have hok : Ok i := ok_of_chk HK1.out
  unfold Ok at hok
  have hlj : (joinL l').length ≤ 1000000 := Nat.le_trans (joinL_len _) (by rw [hp.length_eq]; exact hlen)
  refine wpIn_rangeFunc_ownH rfl (by omega) (gf := 47) (lb := #[.pointer (some ⟨w3.heap.size, 0, none⟩)]) rfl trivial eg47 HSQ.out (fun h k => Keep1.trans h k) (keep1_b hb) (Below.refl _ _) (fun _ => rfl)
    (fun pre W => WoI w w4.heap.size i (fun lo out => ∀ rest, out ++ woL i.2 lo rest = woL i.2 i.1 (pre.map (·.1) ++ rest)) pre.length W ∧ Below w.heap.size w W ∧ w4.heap.size ≤ W.heap.size)
    (fun c pre W => WoI w w4.heap.size i (fun lo out => ∀ rest, out ++ woFin lo i.2 = woL i.2 i.1 (pre.map (·.1) ++ rest)) (joinL l').length W ∧ Below w.heap.size w W ∧ w4.heap.size ≤ W.heap.size ∧ c = .exit 0)
    ((Own.from (WoI.own w _ i (fun (pre : List { x : Int × Int // Ok x }) lo out => ∀ rest, out ++ woL i.2 lo rest = woL i.2 i.1 (pre.map (·.1) ++ rest)) (fun pre => pre.length)) _).and ((ownFrom_below (Nat.le_refl _) (by omega)).and (ownFrom_size _ _)))
    (fun c => (Own.from (WoI.own w _ i (fun (pre : List { x : Int × Int // Ok x }) lo out => ∀ rest, out ++ woFin lo i.2 = woL i.2 i.1 (pre.map (·.1) ++ rest)) (fun _ => (joinL l').length)) _).and ((ownFrom_below (Nat.le_refl _) (by omega)).and ((ownFrom_size _ _).and (ownFrom_pure _ _))))
    ⟨⟨i.1, [], .slice none 0 0, b0, b1, World.ownsRow_nil _ _ _ _, Nat.zero_le _, by omega, by omega, fun rest => rfl⟩, hBa, Nat.le_refl _⟩
    (fun x a' W => ∃ Bx vo, w4.heap.size ≤ Bx ∧ Blk W (w.heap.size + 1) 24 #[vo] ∧ some Bx ≠ vo.ownBlock ∧ Blk W Bx 23 #[.int .i64 x.1.1, .int .i64 x.1.2] ∧ a' = { tmps := #[ivV i, v, .pointer (some ⟨w.heap.size, 0, none⟩), undef, .pointer (some ⟨w.heap.size + 1, 0, none⟩), .int .i64 0, .int .i64 0, .pointer (some ⟨Bx, 0, none⟩), ivV i, .int .i64 (chk i), v, .int .i64 (chkAll l), .slice (some ⟨w2.heap.size, 0, none⟩) 2 2, .int .i64 0, .int .i64 0, .bool false, undef, v, .func (.func 47) #[] #[.pointer (some ⟨w3.heap.size, 0, none⟩)], ivV x.1, undef, undef, undef, undef, undef, undef, undef, undef, undef, undef, undef, undef, undef, undef, undef, undef, undef, undef, undef, undef, undef, undef, undef, undef, undef, undef, undef, undef, undef, undef, undef, undef, undef, undef, undef, undef, undef, undef], defers := [] })
    ?hAx ?assign ?body ?done ?stop
  case hAx =>
    rintro x a' _ W W' row ⟨Bx, vo, hBx, hvo, hne, hb, he⟩ hg hr
    refine ⟨Bx, vo, hBx, hvo.grown hg ?_, hne, hb.grown hg ?_, he⟩
    · intro e
      obtain ⟨_, o, ho, hc⟩ := hr _ e.symm
      rw [show W.heap[w.heap.size + 1]? = _ from hvo] at ho; cases ho; cases hc
    · intro e
      obtain ⟨_, o, ho, hc⟩ := hr Bx e.symm
      rw [show W.heap[Bx]? = _ from hb] at ho; cases ho; cases hc
  case assign =>
    rintro lp pre x W K ⟨⟨lo, out, vo, h0, h1, hrow, hl, hb1, hb2, hq⟩, hB, hsW⟩ hK
    have HQ := Lib.hid hq
    have HR := Lib.hid hrow
    clear hq hrow
    gi_wp2
    exact hK _ _ ((KeepsOthers.alloc _ _).from _) (keep1_alloc (Nat.lt_of_lt_of_le hb hsW) _) ⟨⟨lo, out, vo, h0.alloc _, h1.alloc _, HR.out.alloc _, hl, hb1, hb2, HQ.out⟩, hB.alloc hB.size _, by simp; omega⟩ ⟨W.heap.size, vo, hsW, h1.alloc _, fun e => by have := (HR.out.lt _ e.symm).2; omega, Blk.new _ _ _, rfl⟩
  case body =>
    rintro lp pre x a' W hl hr ⟨⟨lo, out, vo, h0, h1, hrow, hlo, hb1, hb2, hq⟩, hB, hsW⟩ ⟨Bx, vo', hBx, hvo', hne, hX, rfl⟩ hlt
    obtain rfl : vo = vo' := by
      have := (show W.heap[w.heap.size + 1]? = _ from h1).symm.trans hvo'
      simpa using this
    have c0 : W.cell? ⟨w.heap.size, 0, none⟩ = some (.int .i64 lo) := h0.cell 0
    have c1 : W.cell? ⟨w.heap.size, 1, none⟩ = some (.int .i64 i.2) := h0.cell 1
    have c2 : W.cell? ⟨w.heap.size + 1, 0, none⟩ = some vo := h1.cell 0
    have x0 : W.cell? ⟨Bx, 0, none⟩ = some (.int .i64 x.1.1) := hX.cell 0
    have x1 : W.cell? ⟨Bx, 1, none⟩ = some (.int .i64 x.1.2) := hX.cell 1
    have f0 := h0.frozen 0
    have hokx := x.2
    unfold Ok at hokx
    have HQ := Lib.hid hq
    have HR := Lib.hid hrow
    clear hq hrow
    by_cases t1 : x.1.2 < lo
    · gi_wp2_with fail
      exact ⟨KeepsFrom.refl _ _, rfl, ⟨lo, out, vo, h0, h1, HR.out, by simp; omega, hb1, hb2, fun rest => by rw [List.map_append, List.append_assoc, ← HQ.out]; exact (congrArg _ (woL_skip t1)).symm⟩, hB, hsW⟩
    · by_cases t2 : i.2 < x.1.1
      · gi_wp2_with fail
        exact ⟨KeepsFrom.refl _ _, ⟨lo, out, vo, h0, h1, HR.out, by omega, hb1, hb2, fun rest => by rw [List.map_append, List.append_assoc, ← HQ.out]; exact (congrArg _ (woL_stop (u := x.1) (by omega) (by omega))).symm⟩, hB, hsW, rfl⟩
      · by_cases t3 : lo < x.1.1
        · gi_wp2_with (gi_at_builtin; refine wpListIn_append_own _ rfl _ _ 24 rfl w4.heap.size 23 i0 (.agg #[.int .i64 0, .int .i64 0]) 2 16 Try.underlying24 hi hz0 hz1 hz2 rfl (by decide) _ _ _ rfl (HR.out.alloc _) ⟨W.heap.size, 0, none⟩ 1 1 (encIv (lo, x.1.1 - 1)) rfl rfl ?c1 ?c2 ?c3 ?c4 ?c5 ?_)
          case c1 => intro j u h; exact h
          case c2 => exact encIv_one _
          case c3 => simp only [maxLen]; omega
          case c4 => omega
          case c5 => omega
          intro v' w5 hown' hgrow _
          obtain ⟨g', cap', rfl⟩ := ownsRow_succ hown'
          obtain ⟨ka, kb, kc, kd⟩ := app_keeps HR.out hgrow
          have h0' := ka _ _ _ (by omega) h0
          have h1' := ka _ _ _ (by omega) h1
          have e2 : w5.cell? ⟨w.heap.size + 1, 0, none⟩ = some vo := h1'.cell 0
          have g2 := h1'.frozen 0
          have e0 : w5.cell? ⟨w.heap.size, 0, none⟩ = some (.int .i64 lo) := h0'.cell 0
          have g0 := h0'.frozen 0
          have HX5 : Blk w5 Bx 23 #[.int .i64 x.1.1, .int .i64 x.1.2] := (hX.alloc _).grown hgrow hne
          have x1' : w5.cell? ⟨Bx, 1, none⟩ = some (.int .i64 x.1.2) := HX5.cell 1
          have HO := Lib.hid hown'
          clear hown'
          gi_wp2_with fail
          have ho2 := ownsRow_setCell_below (ownsRow_setCell_below HO.out (a := ⟨w.heap.size + 1, 0, none⟩) (by simp; omega) (.slice (some ⟨g', 0, none⟩) (out.length + 1) cap')) (a := ⟨w.heap.size, 0, none⟩) (by simp; omega) (.int .i64 (x.1.2 + 1))
          refine ⟨((kc _).trans ((KeepsOthers.setCell _ _ _).from _)).trans ((KeepsOthers.setCell _ _ _).from _), ((kb b (by omega) (by omega)).trans (Below.heap_setCell _ _ _ _ (by simp; omega))).trans (Below.heap_setCell _ _ _ _ (by simp; omega)),
            ⟨x.1.2 + 1, out ++ [(lo, x.1.1 - 1)], _, (h0'.far (by simp) _).set_ 0 _, (h1'.set_ 0 _).far (by simp) _, by simpa using ho2, by simp; omega, by omega, by omega, fun rest => ?_⟩, ((hB.trans (kd _ (by omega) hB.size)).setCell (by simp) _).setCell (by simp) _, ?_⟩
          · rw [List.map_append, List.append_assoc, List.append_assoc, ← HQ.out]
            exact (congrArg _ (woL_take (u := x.1) (by omega) (by omega) (by omega))).symm
          · have := hgrow.size
            simp [World.setCell] at this ⊢
            omega
        · gi_wp2_with fail
          exact ⟨(KeepsOthers.setCell _ _ _).from _, Below.heap_setCell _ _ _ _ (by simp; omega), ⟨x.1.2 + 1, out, vo, h0.set_ 0 _, h1.far (by simp) _, ownsRow_setCell_below HR.out (by simp; omega) _, by simp; omega, by omega, by omega, fun rest => by rw [List.map_append, List.append_assoc, ← HQ.out]; exact (congrArg _ (woL_pass (u := x.1) (by omega) (by omega) (by omega))).symm⟩, hB.setCell (by simp) _, by simpa [World.setCell] using hsW⟩
  case done =>
    rintro D ys W hD hS ⟨⟨lo, out, vo, h0, h1, hrow, hlo, hb1, hb2, hq⟩, hB, hsW⟩ hK
    have hfin : out ++ woFin lo i.2 = woL i.2 i.1 (joinL l') := by
      have := hq []
      rw [List.append_nil, hS] at this
      exact this
    have hlo2 : out.length ≤ (joinL l').length := by rw [← hS, List.length_map]; exact hlo
    have HF := Lib.hid hfin
    clear hS hfin hq
    have c0 : W.cell? ⟨w.heap.size, 0, none⟩ = some (.int .i64 lo) := h0.cell 0
    have c1 : W.cell? ⟨w.heap.size, 1, none⟩ = some (.int .i64 i.2) := h0.cell 1
    have c2 : W.cell? ⟨w.heap.size + 1, 0, none⟩ = some vo := h1.cell 0
    have f2 := h1.frozen 0
    have HR := Lib.hid hrow
    clear hrow
    have hlo' : out.length ≤ 1000000 := by omega
    obtain ⟨A0, n0, k0, hvo⟩ : ∃ A0 n0 k0, vo = .slice A0 n0 k0 := by
      rcases HR.out.2 with ⟨rfl, _⟩ | ⟨_, _, _, rfl, _⟩ <;> exact ⟨_, _, _, rfl⟩
    by_cases t : lo ≤ i.2
    · clear hvo
      gi_wp2_with (gi_at_builtin; refine wpListIn_append_own _ rfl _ _ 24 rfl w4.heap.size 23 i0 (.agg #[.int .i64 0, .int .i64 0]) 2 16 Try.underlying24 hi hz0 hz1 hz2 rfl (by decide) _ _ _ rfl (HR.out.alloc _) ⟨W.heap.size, 0, none⟩ 1 1 (encIv (lo, i.2)) rfl rfl ?c1 ?c2 ?c3 ?c4 ?c5 ?_)
      case c1 => exact encIv_new _ _ rfl (lo, i.2)
      case c2 => exact encIv_one _
      case c3 => simp only [maxLen]; omega
      case c4 => omega
      case c5 => simp; omega
      intro v' w5 hown' hgrow _
      obtain ⟨g', cap', rfl⟩ := ownsRow_succ hown'
      obtain ⟨ka, kb, kc, kd⟩ := app_keeps HR.out hgrow
      have h1' := ka _ _ _ (by omega) h1
      have e2 : w5.cell? ⟨w.heap.size + 1, 0, none⟩ = some vo := h1'.cell 0
      have g2 := h1'.frozen 0
      have HO := Lib.hid hown'
      clear hown'
      have hs5 : D < w5.heap.size := by
        have := hgrow.size
        have := (Array.getElem?_eq_some_iff.1 hK).1
        simp at this ⊢
        simp at *
        omega
      have hK5 : w5.heap[D]? = some (.deferred (some [])) := (kc 0).same D _ (Nat.zero_le _) hK rfl
      gi_wp2_with fail
      have hK6 := heap_setCell_ne (heap_setCell_ne hK5 (p := ⟨w.heap.size + 1, 0, none⟩) (by simp; omega) (.slice (some ⟨g', 0, none⟩) (out.length + 1) cap')) (p := ⟨w.heap.size + 1, 0, none⟩) (by simp; omega) (.slice (some ⟨g', 0, none⟩) (out.length + 1) cap')
      refine ⟨by simp, .inl ⟨_, _, rfl, run_takeDeferred hK6, ?_⟩⟩
      have e1 := ((((h1'.set_ 0 (.slice (some ⟨g', 0, none⟩) (out.length + 1) cap')).set_ 0 (.slice (some ⟨g', 0, none⟩) (out.length + 1) cap'))).putObj hK6 (.deferred none)).cell 0
      simp only [List.setIfInBounds_toArray, List.set_cons_zero, List.getElem?_toArray, List.getElem?_cons_zero] at e1
      have ho2 := ownsRow_putObj (ownsRow_setCell_below (ownsRow_setCell_below HO.out (a := ⟨w.heap.size + 1, 0, none⟩) (by simp; omega) (.slice (some ⟨g', 0, none⟩) (out.length + 1) cap')) (a := ⟨w.heap.size + 1, 0, none⟩) (by simp; omega) (.slice (some ⟨g', 0, none⟩) (out.length + 1) cap')) (.deferred none) hK6 rfl
      have hfl : woL i.2 i.1 (joinL l') = out ++ [(lo, i.2)] := by rw [← HF.out, woFin, if_pos t]
      have hB2 := below_putObj (((hB.trans (kd _ (by omega) hB.size)).setCell (p := ⟨w.heap.size + 1, 0, none⟩) (by simp) (.slice (some ⟨g', 0, none⟩) (out.length + 1) cap')).setCell (p := ⟨w.heap.size + 1, 0, none⟩) (by simp) (.slice (some ⟨g', 0, none⟩) (out.length + 1) cap')) (by omega) hK6 (.deferred none)
      refine ⟨.tuple #[.slice (some ⟨g', 0, none⟩) (out.length + 1) cap', .int .i64 0], by simp [results, Try.results15, go_sem, e1], _, l', woL i.2 i.1 (joinL l'), fun _ => ⟨hp, HS.out⟩, by rw [if_pos HK.out], by rw [HK.out], ?_, hB2⟩
      rw [hfl]
      simpa using ownsRow_base ho2 (by omega)
    · subst hvo
      gi_wp2_with fail
      have hK6 := heap_setCell_ne hK (p := ⟨w.heap.size + 1, 0, none⟩) (by simp; omega) (.slice A0 n0 k0)
      refine ⟨by simp, .inl ⟨_, _, rfl, run_takeDeferred hK6, ?_⟩⟩
      have e1 := ((h1.set_ 0 (.slice A0 n0 k0)).putObj hK6 (.deferred none)).cell 0
      simp only [List.setIfInBounds_toArray, List.set_cons_zero, List.getElem?_toArray, List.getElem?_cons_zero] at e1
      have ho2 := ownsRow_putObj (ownsRow_setCell_below HR.out (a := ⟨w.heap.size + 1, 0, none⟩) (by simp; omega) (.slice A0 n0 k0)) (.deferred none) hK6 rfl
      have hfl : woL i.2 i.1 (joinL l') = out := by rw [← HF.out, woFin, if_neg (by omega), List.append_nil]
      have hB2 := below_putObj (hB.setCell (p := ⟨w.heap.size + 1, 0, none⟩) (by simp) (.slice A0 n0 k0)) (by omega) hK6 (.deferred none)
      refine ⟨.tuple #[.slice A0 n0 k0, .int .i64 0], by simp [results, Try.results15, go_sem, e1], _, l', woL i.2 i.1 (joinL l'), fun _ => ⟨hp, HS.out⟩, by rw [if_pos HK.out], by rw [HK.out], ?_, hB2⟩
      rw [hfl]
      exact ownsRow_base ho2 (by omega)
  case stop =>
    rintro D c pre W hD hSp ⟨⟨lo, out, vo, h0, h1, hrow, hlo2, hb1, hb2, hq⟩, hB, hsW, rfl⟩ hK
    have hfin : out ++ woFin lo i.2 = woL i.2 i.1 (joinL l') := by
      obtain ⟨t, ht⟩ := hSp
      rw [← ht]
      exact hq t
    have HF := Lib.hid hfin
    clear hSp hfin hq
    have c0 : W.cell? ⟨w.heap.size, 0, none⟩ = some (.int .i64 lo) := h0.cell 0
    have c1 : W.cell? ⟨w.heap.size, 1, none⟩ = some (.int .i64 i.2) := h0.cell 1
    have c2 : W.cell? ⟨w.heap.size + 1, 0, none⟩ = some vo := h1.cell 0
    have f2 := h1.frozen 0
    have HR := Lib.hid hrow
    clear hrow
    have hlo' : out.length ≤ 1000000 := by omega
    obtain ⟨A0, n0, k0, hvo⟩ : ∃ A0 n0 k0, vo = .slice A0 n0 k0 := by
      rcases HR.out.2 with ⟨rfl, _⟩ | ⟨_, _, _, rfl, _⟩ <;> exact ⟨_, _, _, rfl⟩
    by_cases t : lo ≤ i.2
    · clear hvo
      gi_wp2_with (gi_at_builtin; refine wpListIn_append_own _ rfl _ _ 24 rfl w4.heap.size 23 i0 (.agg #[.int .i64 0, .int .i64 0]) 2 16 Try.underlying24 hi hz0 hz1 hz2 rfl (by decide) _ _ _ rfl (HR.out.alloc _) ⟨W.heap.size, 0, none⟩ 1 1 (encIv (lo, i.2)) rfl rfl ?c1 ?c2 ?c3 ?c4 ?c5 ?_)
      case c1 => exact encIv_new _ _ rfl (lo, i.2)
      case c2 => exact encIv_one _
      case c3 => simp only [maxLen]; omega
      case c4 => omega
      case c5 => simp; omega
      intro v' w5 hown' hgrow _
      obtain ⟨g', cap', rfl⟩ := ownsRow_succ hown'
      obtain ⟨ka, kb, kc, kd⟩ := app_keeps HR.out hgrow
      have h1' := ka _ _ _ (by omega) h1
      have e2 : w5.cell? ⟨w.heap.size + 1, 0, none⟩ = some vo := h1'.cell 0
      have g2 := h1'.frozen 0
      have HO := Lib.hid hown'
      clear hown'
      have hs5 : D < w5.heap.size := by
        have := hgrow.size
        have := (Array.getElem?_eq_some_iff.1 hK).1
        simp at this ⊢
        simp at *
        omega
      have hK5 : w5.heap[D]? = some (.deferred (some [])) := (kc 0).same D _ (Nat.zero_le _) hK rfl
      gi_wp2_with fail
      have hK6 := heap_setCell_ne (heap_setCell_ne hK5 (p := ⟨w.heap.size + 1, 0, none⟩) (by simp; omega) (.slice (some ⟨g', 0, none⟩) (out.length + 1) cap')) (p := ⟨w.heap.size + 1, 0, none⟩) (by simp; omega) (.slice (some ⟨g', 0, none⟩) (out.length + 1) cap')
      refine ⟨by simp, .inl ⟨_, _, rfl, run_takeDeferred hK6, ?_⟩⟩
      have e1 := ((((h1'.set_ 0 (.slice (some ⟨g', 0, none⟩) (out.length + 1) cap')).set_ 0 (.slice (some ⟨g', 0, none⟩) (out.length + 1) cap'))).putObj hK6 (.deferred none)).cell 0
      simp only [List.setIfInBounds_toArray, List.set_cons_zero, List.getElem?_toArray, List.getElem?_cons_zero] at e1
      have ho2 := ownsRow_putObj (ownsRow_setCell_below (ownsRow_setCell_below HO.out (a := ⟨w.heap.size + 1, 0, none⟩) (by simp; omega) (.slice (some ⟨g', 0, none⟩) (out.length + 1) cap')) (a := ⟨w.heap.size + 1, 0, none⟩) (by simp; omega) (.slice (some ⟨g', 0, none⟩) (out.length + 1) cap')) (.deferred none) hK6 rfl
      have hfl : woL i.2 i.1 (joinL l') = out ++ [(lo, i.2)] := by rw [← HF.out, woFin, if_pos t]
      have hB2 := below_putObj (((hB.trans (kd _ (by omega) hB.size)).setCell (p := ⟨w.heap.size + 1, 0, none⟩) (by simp) (.slice (some ⟨g', 0, none⟩) (out.length + 1) cap')).setCell (p := ⟨w.heap.size + 1, 0, none⟩) (by simp) (.slice (some ⟨g', 0, none⟩) (out.length + 1) cap')) (by omega) hK6 (.deferred none)
      refine ⟨.tuple #[.slice (some ⟨g', 0, none⟩) (out.length + 1) cap', .int .i64 0], by simp [results, Try.results15, go_sem, e1], _, l', woL i.2 i.1 (joinL l'), fun _ => ⟨hp, HS.out⟩, by rw [if_pos HK.out], by rw [HK.out], ?_, hB2⟩
      rw [hfl]
      simpa using ownsRow_base ho2 (by omega)
    · subst hvo
      gi_wp2_with fail
      have hK6 := heap_setCell_ne hK (p := ⟨w.heap.size + 1, 0, none⟩) (by simp; omega) (.slice A0 n0 k0)
      refine ⟨by simp, .inl ⟨_, _, rfl, run_takeDeferred hK6, ?_⟩⟩
      have e1 := ((h1.set_ 0 (.slice A0 n0 k0)).putObj hK6 (.deferred none)).cell 0
      simp only [List.setIfInBounds_toArray, List.set_cons_zero, List.getElem?_toArray, List.getElem?_cons_zero] at e1
      have ho2 := ownsRow_putObj (ownsRow_setCell_below HR.out (a := ⟨w.heap.size + 1, 0, none⟩) (by simp; omega) (.slice A0 n0 k0)) (.deferred none) hK6 rfl
      have hfl : woL i.2 i.1 (joinL l') = out := by rw [← HF.out, woFin, if_neg (by omega), List.append_nil]
      have hB2 := below_putObj (hB.setCell (p := ⟨w.heap.size + 1, 0, none⟩) (by simp) (.slice A0 n0 k0)) (by omega) hK6 (.deferred none)
      refine ⟨.tuple #[.slice A0 n0 k0, .int .i64 0], by simp [results, Try.results15, go_sem, e1], _, l', woL i.2 i.1 (joinL l'), fun _ => ⟨hp, HS.out⟩, by rw [if_pos HK.out], by rw [HK.out], ?_, hB2⟩
      rw [hfl]
      exact ownsRow_base ho2 (by omega)

theorem Without_any (i : Int × Int) (v : Value) (l : List (Int × Int)) (w : World) (h : SlIv w v l) (hlen : l.length ≤ 1000000) :
    Calls Try.prog 15 #[ivV i, v] w (RetWithout w i l) := by
  by_cases hk : bothE i l = 0
  · exact Without_yes i v l w h hlen hk
  · exact Without_no i v l w h hk
end Go.Proofs.Ytidaklcinddghaa
