/- slices.Insert at lists of lists: one list, at any place. -/
import Derived.Test.YtbmdfnifbimfmaaGreatDoorC7
import Derived.Shelf.Spec.SlicesInsertGrow
namespace Go.Proofs.YtbmdfnifbimfmaaGreatDoor
open Go.RowKit Go.Shelf Go.Lib
attribute [local go_sem] Oper.semAt_some

theorem size_zeroS (n : Nat) : (Builtin.zeroCells (Value.slice none 0 0).cells n).size = n := by
  have : (Value.slice none 0 0).cells.size = 1 := rfl
  simp [Builtin.zeroCells, this]
theorem eS : Tryz.prog.underlying 22 = some (.slice 23) := Tryz.underlying22

set_option maxHeartbeats 4000000 in
set_option maxRecDepth 100000 in
/-- No room: a new row. -/
theorem insSS_new (b n c i vb : Nat) (cs : List Value) (x : Value) (w : World) (hi : i < n) (hnc : n ≤ c) (hroom : c < n + 1) (hbig : (n + 1) * 24 ≤ 140737488355328) (hcl : cs.length = n)
    (hcs : ∀ j v, cs[j]? = some v → w.cell? ⟨b, j, none⟩ = some v) (hx : w.cell? ⟨vb, 0, none⟩ = some x) (h1c : ∀ v ∈ cs, v.oneCell' = true) (h1v : x.oneCell' = true) :
    Calls Tryz.prog 40 #[.slice (some ⟨b, 0, none⟩) n c, .int .i64 i, .slice (some ⟨vb, 0, none⟩) 1 1] w fun e w' =>
      e = .returned (.slice (some ⟨w.heap.size, 0, none⟩) (n + 1) (grownCap w (n + 1) c 23)) ∧
      w' = (((w.alloc (.cells ((cs.take i).toArray ++ Builtin.zeroCells (Value.slice none 0 0).cells (n + 1 - i) ++ Builtin.zeroCells (Value.slice none 0 0).cells (grownCap w (n + 1) c 23 - (n + 1))) 23)).drew.setCells w.heap.size i [x]).drew).setCells w.heap.size (i + 1) (cs.drop i) := by
  obtain ⟨i0, hi0, hz0, hzs, hzb⟩ := info_parts infoS
  have hsz : (Tryz.prog.info? 23).map (·.size) = some 1 := by rw [hi0]; simp [hzs]
  have hbw : b < w.heap.size := block_lt_of_cell (hcs 0 _ (List.getElem?_eq_getElem (by omega)))
  have hvw : vb < w.heap.size := block_lt_of_cell hx
  have hold : (Builtin.firstCells i0.size i (.slice (some ⟨b, 0, none⟩) i c)).run Tryz.prog w.drew = .ok (cs.take i).toArray w.drew := by
    rw [hzs]
    exact run_firstCells_some w.drew 1 i ⟨b, 0, none⟩ i c (cs.take i) (by rw [List.length_take]; omega) (fun j v hj => by
      rw [add_lit, Nat.zero_add]
      rw [List.getElem?_take] at hj
      split at hj
      · exact hcs j v hj
      · cases hj)
  obtain ⟨G, hG⟩ : ∃ G, G = grownCap w (n + 1) c 23 := ⟨_, rfl⟩
  obtain ⟨R, hR⟩ : ∃ R : Array Value, R = (cs.take i).toArray ++ Builtin.zeroCells (Value.slice none 0 0).cells (n + 1 - i) ++ Builtin.zeroCells (Value.slice none 0 0).cells (G - (n + 1)) := ⟨_, rfl⟩
  have hrz : ∀ ty, (Builtin.append_ #[22, 3] ty #[.slice (some ⟨b, 0, none⟩) i c, .int .i64 ((n : Int) + 1 - (i : Int))]).run Tryz.prog w =
      .ok (.slice (some ⟨w.heap.size, 0, none⟩) (n + 1) G) (w.drew.alloc (.cells R 23)) := fun ty => by
    have h := Lib.run_append_grow_zeros w 22 3 ty 23 i0 _ .i64 .i64 eS Tryz.underlying3 hi0 hz0 (some ⟨b, 0, none⟩) i c (cs.take i) hold (n + 1 - i) (by omega) (by omega) (by omega) (by omega) (by rw [hzb]; omega) (by rw [hzb, show i + (n + 1 - i) = n + 1 by omega]; exact growslice_fits hroom hbig)
    rw [show i + (n + 1 - i) = n + 1 by omega, ← hG, ← hR] at h
    rw [show (n : Int) + 1 - (i : Int) = ((n + 1 - i : Nat) : Int) by omega]
    exact h
  rw [← hG, ← hR]
  have hRl : n + 1 ≤ R.size := by rw [hR, Array.size_append, Array.size_append, size_zeroS, size_zeroS]; simp; omega
  obtain ⟨W1, hW1⟩ : ∃ W1, W1 = w.drew.alloc (.cells R 23) := ⟨_, rfl⟩
  rw [← hW1] at hrz
  have hN : ∀ j, j < n + 1 → (W1.cell? ⟨w.heap.size, j, none⟩).isSome = true := fun j hj => by
    rw [hW1, World.cell?_alloc_at (w := w.drew) R _ w.heap.size j rfl, Array.getElem?_eq_getElem (by omega)]; rfl
  have hNf : ∀ j, W1.frozen? ⟨w.heap.size, j, none⟩ = false := fun j => by rw [hW1]; exact World.frozen?_alloc_at (w := w.drew) R _ w.heap.size j rfl
  have hOb : ∀ j v, w.cell? ⟨b, j, none⟩ = some v → W1.cell? ⟨b, j, none⟩ = some v := fun j v h => by rw [hW1, World.cell?_alloc_past (w := w.drew) _ b j hbw]; exact h
  have hOv : W1.cell? ⟨vb, 0, none⟩ = some x := by rw [hW1, World.cell?_alloc_past (w := w.drew) _ vb 0 hvw]; exact hx
  have hcpA : ∀ (W : World), (∀ a, W.cell? a = W1.cell? a) → (∀ a, W.frozen? a = W1.frozen? a) → ∀ ty dc, (Builtin.copy_ #[22, 22] ty #[.slice (some ⟨w.heap.size, i, none⟩) (n + 1 - i) dc, .slice (some ⟨vb, 0, none⟩) 1 1]).run Tryz.prog W = .ok (goInt 1) (W.setCells w.heap.size i [x]) := fun W hWc hWf ty dc =>
    run_copy_cells W _ _ ty 23 w.heap.size i (n + 1 - i) dc ⟨vb, 0, none⟩ 1 1 [x] eS hsz (by simp only [List.length_singleton, Nat.min_def]; split <;> omega)
      (fun j v hj => by
        have hj0 : j = 0 := by have := (List.getElem?_eq_some_iff.1 hj).1; simp at this; exact this
        subst hj0
        rw [add_lit, hWc, hOv]; simpa using hj)
      (fun j hj => by rw [hWc]; exact hN _ (by simp at hj; omega)) (fun j hj => by rw [hWf]; exact hNf _) (fun v hv => by rw [List.mem_singleton.1 hv]; exact h1v)
  have hGn : n + 1 ≤ G := by rw [hG]; exact grownCap_ge w _ _ _
  have hG63 : G ≤ 9223372036854775807 := by
    have := grownCap_le_maxLen w (n + 1) c 23 (by unfold maxLen; omega)
    rw [← hG] at this
    unfold maxLen at this
    omega
  have hbN : b ≠ w.heap.size := by omega
  have hdl : (cs.drop i).length = n - i := by rw [List.length_drop, hcl]
  have hcpB : ∀ (W : World), (∀ a, W.cell? a = (W1.setCells w.heap.size i [x]).cell? a) → (∀ a, W.frozen? a = (W1.setCells w.heap.size i [x]).frozen? a) → ∀ ty dc sc, (Builtin.copy_ #[22, 22] ty #[.slice (some ⟨w.heap.size, i + 1, none⟩) (n + 1 - (i + 1)) dc, .slice (some ⟨b, i, none⟩) (n - i) sc]).run Tryz.prog W = .ok (goInt (cs.drop i).length) (W.setCells w.heap.size (i + 1) (cs.drop i)) := fun W hWc hWf ty dc sc =>
    run_copy_cells W _ _ ty 23 w.heap.size (i + 1) (n + 1 - (i + 1)) dc ⟨b, i, none⟩ (n - i) sc (cs.drop i) eS hsz (by rw [hdl]; simp only [Nat.min_def]; split <;> omega)
      (fun j v hj => by
        rw [add_lit, hWc, World.cell?_setCells_out _ _ _ _ _ (fun h _ => absurd h hbN)]
        exact hOb _ v (hcs (i + j) v (by rwa [List.getElem?_drop] at hj)))
      (fun j hj => by rw [hWc]; exact isSome_setCells _ _ _ _ (fun t ht => hN _ (by simp at ht; omega)) _ (hN _ (by omega)))
      (fun j hj => by rw [hWf, World.frozen?_setCells]; exact hNf _) (fun v hv => h1c v (List.mem_of_mem_drop hv))
  subst hW1
  have hE1 : ∀ a, ((w.alloc (.cells R 23)).drew).cell? a = (w.drew.alloc (.cells R 23)).cell? a := fun _ => rfl
  have hE2 : ∀ a, ((w.alloc (.cells R 23)).drew).frozen? a = (w.drew.alloc (.cells R 23)).frozen? a := fun _ => rfl
  have hF1 : ∀ a, (((w.alloc (.cells R 23)).drew.setCells w.heap.size i [x]).drew).cell? a = ((w.drew.alloc (.cells R 23)).setCells w.heap.size i [x]).cell? a := fun _ => rfl
  have hF2 : ∀ a, (((w.alloc (.cells R 23)).drew.setCells w.heap.size i [x]).drew).frozen? a = ((w.drew.alloc (.cells R 23)).setCells w.heap.size i [x]).frozen? a := fun _ => rfl
  have hz2 : ((i : Int) == (n : Int)) = false := by rw [beq_eq_false_iff_ne]; omega
  have hz3 : (c : Int) < (n : Int) + 1 := by omega
  have hw0 : IntKind.i64.wrap ((n : Int) + 1) = (n : Int) + 1 := by rw [IntKind.wrap_i64]; omega
  have hw2 : IntKind.i64.wrap ((n : Int) + 1 - (i : Int)) = (n : Int) + 1 - (i : Int) := by rw [IntKind.wrap_i64]; omega
  have hw1 : IntKind.i64.wrap ((i : Int) + 1) = (i : Int) + 1 := by rw [IntKind.wrap_i64]; omega
  have hb1 : (0 : Int) ≤ (i : Int) + 1 := by omega
  have htn : ((i : Int) + 1).toNat = i + 1 := by omega
  have hin : i ≤ n := by omega
  have hb3 : (i : Int) ≤ (n : Int) := by omega
  have hGi : ¬ (G = i) := by omega
  have hGim : ¬ (G = i + 1) := by omega
  have hci : ¬ (c = i) := by omega
  clear hold hR hG hRl hcs hx h1c h1v hN hNf hOb hOv
  have mixed : Tryz.prog.follows .mixedOrders = true := by kernel_rfl
  go_enter Tryz.func40, Tryz.ntmps40
  go_wp2_with (first
    | (at_builtin; refine Lib.wpList_append_run _ rfl _ _ _ _ rfl _ _ rfl rfl _ _ (hrz _) ?_)
    | (at_builtin; refine wpList_copy_runI _ rfl _ _ 22 22 rfl _ _ rfl rfl (hcpA _ hE1 hE2 _ _) ?_)
    | (at_builtin; refine wpList_copy_runI _ rfl _ _ 22 22 rfl _ _ rfl rfl (hcpB _ (fun _ => rfl) (fun _ => rfl) _ _ _) ?_))
  go_region_law_o (refine step_copy_runI rfl _ _ 22 22 rfl (.slice (some ⟨w.heap.size, i + 1, none⟩) (n + 1 - (i + 1)) (G - (i + 1))) (.slice (some ⟨b, i, none⟩) (n - i) (c - i)) (by simp [Act.eval, Act.put]) (by simp [Act.eval, Act.put]) (hcpB _ hF1 hF2 3 (G - (i + 1)) (c - i)) ?_)
  go_wp2
  go_ret
  exact ⟨rfl, rfl⟩

set_option maxHeartbeats 4000000 in
set_option maxRecDepth 100000 in
/-- Room: in place. -/
theorem insSS_room (b n c i vb : Nat) (cs : List Value) (cur : Array Value) (x : Value) (w : World) (hi : i < n) (hroom : n + 1 ≤ c) (hc63 : c ≤ maxLen) (hvb : vb ≠ b) (hcl : cs.length = n)
    (hcs : ∀ j v, cs[j]? = some v → w.cell? ⟨b, j, none⟩ = some v) (hB : Blk w b 23 cur) (hcur : cur.size = c) (hV : Blk w vb 23 #[x]) (h1c : ∀ v ∈ cs, v.oneCell' = true) (h1v : x.oneCell' = true) :
    Calls Tryz.prog 40 #[.slice (some ⟨b, 0, none⟩) n c, .int .i64 i, .slice (some ⟨vb, 0, none⟩) 1 1] w fun e w' =>
      e = .returned (.slice (some ⟨b, 0, none⟩) (n + 1) c) ∧ w' = (w.drew.setCells b (i + 1) (cs.drop i)).setCells b i [x] := by
  unfold maxLen at hc63
  have hsz : (Tryz.prog.info? 23).map (·.size) = some 1 := by
    obtain ⟨i0, hi0, h0, h1, h2⟩ := info_parts infoS
    rw [hi0]; simp [h1]
  have hsp : ∀ j, j < n + 1 → (w.cell? ⟨b, j, none⟩).isSome = true := fun j hj => by rw [hB.cell, Array.getElem?_eq_getElem (by omega)]; rfl
  have hov : ∀ lb cb, (callFunc 59 #[.slice (some ⟨vb, 0, none⟩) 1 1, .slice (some ⟨b, i + 1, none⟩) lb cb]).run Tryz.prog w = .ok (.value (.bool false)) w := fun lb cb => by
    rw [run_callFunc_extern Tryz.func59 (by kernel_rfl) (by kernel_rfl) (by kernel_rfl) (e := Extern.SlicesOverlaps.overlaps #[22, 22] #[4]) (by kernel_rfl),
      Lib.run_overlaps_apart w 22 4 23 eS 1 Tryz.sizeOf23 ⟨vb, 0, none⟩ ⟨b, i + 1, none⟩ 1 1 lb cb hvb 23 23 1 c (by unfold World.shape?; rw [show w.heap[vb]? = _ from hV]; rfl) (by unfold World.shape?; rw [show w.heap[b]? = _ from hB]; simp [hcur]) (by omega) (hV.frozen _) (hV.frozen _)]
    rfl
  have hdl : (cs.drop i).length = n - i := by rw [List.length_drop, hcl]
  have mixed : Tryz.prog.follows .mixedOrders = true := by kernel_rfl
  have hz2 : ((i : Int) == (n : Int)) = false := by rw [beq_eq_false_iff_ne]; omega
  have hz3 : ¬ ((c : Int) < (n : Int) + 1) := by omega
  have hw0 : IntKind.i64.wrap ((n : Int) + 1) = (n : Int) + 1 := by rw [IntKind.wrap_i64]; omega
  have hw1 : IntKind.i64.wrap ((i : Int) + 1) = (i : Int) + 1 := by rw [IntKind.wrap_i64]; omega
  have hb1 : (0 : Int) ≤ (i : Int) + 1 := by omega
  have hb0 : (0 : Int) ≤ (n : Int) + 1 := by omega
  have htn : ((i : Int) + 1).toNat = i + 1 := by omega
  have htn2 : ((n : Int) + 1).toNat = n + 1 := by omega
  have hin : i ≤ n := by omega
  have hb2 : ¬ (c = i + 1) := by omega
  have hb3 : (i : Int) ≤ (n : Int) + 1 := by omega
  have hb4 : ¬ (c = i) := by omega
  have hb5 : (n : Int) + 1 ≤ (c : Int) := by omega
  have hcp1 : ∀ ty dc sc, (Builtin.copy_ #[22, 22] ty #[.slice (some ⟨b, i + 1, none⟩) (n - i) dc, .slice (some ⟨b, i, none⟩) (n + 1 - i) sc]).run Tryz.prog w.drew = .ok (goInt (cs.drop i).length) (w.drew.setCells b (i + 1) (cs.drop i)) := fun ty dc sc =>
    run_copy_cells w.drew _ _ ty 23 b (i + 1) (n - i) dc ⟨b, i, none⟩ (n + 1 - i) sc (cs.drop i) eS hsz (by rw [hdl]; simp only [Nat.min_def]; split <;> omega)
      (fun j v hj => by rw [add_lit]; exact hcs (i + j) v (by rwa [List.getElem?_drop] at hj))
      (fun j hj => hsp _ (by omega)) (fun j hj => hB.frozen _) (fun v hv => h1c v (List.mem_of_mem_drop hv))
  obtain ⟨W1, hW1⟩ : ∃ W1, W1 = w.drew.setCells b (i + 1) (cs.drop i) := ⟨_, rfl⟩
  have hsp1 : ∀ k, k < n + 1 → (W1.cell? ⟨b, k, none⟩).isSome = true := fun k hk => by
    rw [hW1]
    exact isSome_setCells b (cs.drop i) (i + 1) w.drew (fun j hj => hsp _ (by rw [hdl] at hj; omega)) k (hsp k hk)
  have hcp2 : ∀ (W : World), (∀ a, W.cell? a = W1.cell? a) → (∀ a, W.frozen? a = W1.frozen? a) → ∀ ty dc, (Builtin.copy_ #[22, 22] ty #[.slice (some ⟨b, i, none⟩) (n + 1 - i) dc, .slice (some ⟨vb, 0, none⟩) 1 1]).run Tryz.prog W = .ok (goInt 1) (W.setCells b i [x]) := fun W hWc hWf ty dc =>
    run_copy_cells W _ _ ty 23 b i (n + 1 - i) dc ⟨vb, 0, none⟩ 1 1 [x] eS hsz (by simp only [List.length_singleton, Nat.min_def]; split <;> omega)
      (fun j v hj => by
        have hj0 : j = 0 := by have := (List.getElem?_eq_some_iff.1 hj).1; simp at this; exact this
        subst hj0
        rw [add_lit, hWc, hW1, World.cell?_setCells_out b _ _ _ _ (fun h _ => absurd h hvb)]
        refine (hV.cell 0).trans ?_
        simpa using hj)
      (fun j hj => by rw [hWc]; exact hsp1 _ (by simp at hj; omega)) (fun j hj => by rw [hWf, hW1, World.frozen?_setCells]; exact hB.frozen _) (fun v hv => by rw [List.mem_singleton.1 hv]; exact h1v)
  rw [← hW1] at hcp1
  clear hsp hsp1 hcs hB hV h1c h1v hcur
  go_enter Tryz.func40, Tryz.ntmps40
  go_wp2_with (simp only [hov])
  go_region_law_o (refine step_copy_runI rfl _ _ 22 22 rfl _ _ (by simp [Act.eval, Act.put]) (by simp [Act.eval, Act.put]) (hcp1 _ _ _) ?_)
  go_wp2_with (at_builtin; refine wpList_copy_runI _ rfl _ _ 22 22 rfl _ _ rfl rfl (hcp2 _ (fun _ => rfl) (fun _ => rfl) _ _) ?_)
  go_ret
  first | exact ⟨rfl, rfl⟩ | exact ⟨rfl, by rw [hW1]⟩

theorem mem_insAt {α : Type} {l : List α} {k : Nat} {x p : α} (h : p ∈ insAt l k x) : p = x ∨ p ∈ l := by
  unfold insAt at h
  rcases List.mem_append.1 h with h | h
  · exact .inr (List.mem_of_mem_take h)
  · rcases List.mem_cons.1 h with h | h
    · exact .inl h
    · exact .inr (List.mem_of_mem_drop h)

set_option maxHeartbeats 1000000 in
theorem insSS_any (n k : Nat) (hk : k ≤ n) : InsSSAt n k := by
  rcases Nat.lt_or_ge k n with hkl | hkl
  case inr => obtain rfl : k = n := by omega
              exact insSS_end k
  intro base v ps p vb w hn h hx hp hap hne hbase hl
  subst hn
  have honl : ∀ u ∈ ps.map (·.1), u.oneCell' = true := fun u hu => by
    obtain ⟨q, hq, rfl⟩ := List.mem_map.1 hu
    obtain ⟨A, c, e⟩ := SI.slice_form (h.2 q hq).1
    rw [e]; rfl
  have hone : p.1.oneCell' = true := by obtain ⟨A, c, e⟩ := SI.slice_form hp; rw [e]; rfl
  have hmem : ∀ q ∈ insAt ps k p, SI w q.1 q.2 ∧ Apart q.1 v.ownBlock := fun q hq => by
    rcases mem_insAt hq with rfl | hq
    · exact ⟨hp, hap⟩
    · exact h.2 q hq
  have hlen : ((insAt ps k p).map (·.1)).length = ps.length + 1 := by rw [List.length_map, insAt_len ps k p hk]
  have hlen2 : (insAt ps k p).length = ps.length + 1 := insAt_len ps k p hk
  have hvc : w.cell? ⟨vb, 0, none⟩ = some p.1 := hx.cell 0
  have hml : (ps.map (·.1)).length = ps.length := List.length_map _
  obtain ⟨cs, hcsE⟩ : ∃ cs, cs = ps.map (·.1) := ⟨_, rfl⟩
  have hins : (insAt ps k p).map (·.1) = insAt cs k p.1 := by rw [insAt_map, hcsE]
  rcases h.1.2 with ⟨_, h0⟩ | ⟨g, cap, cur, hv, hbg, hg, hnc, hm, hs, ht⟩
  · omega
  · have hrow := h.1
    subst hv
    have hblk : Blk w g 23 cur := hg
    have hcs : ∀ (j : Nat) (u : Value), cs[j]? = some u → w.cell? ⟨g, j, none⟩ = some u := fun j u hj => by
      have := hrow.cells (g := g) rfl j u (by rw [← hcsE]; exact hj)
      rwa [add_lit, Nat.zero_add] at this
    have hgv : vb ≠ g := fun e => hne (by rw [e]; rfl)
    have hcl : cs.length = ps.length := by rw [hcsE, hml]
    rw [← hcsE] at honl
    rcases Nat.lt_or_ge cap (ps.length + 1) with hc | hc
    · refine (insSS_new g ps.length cap k vb cs p.1 w hkl hnc hc (by omega) hcl hcs hvc honl hone).mono ?_
      rintro e w' ⟨rfl, rfl⟩
      obtain ⟨G, hG⟩ : ∃ G, grownCap w (ps.length + 1) cap 23 = G := ⟨_, rfl⟩
      have hgc : ps.length + 1 ≤ G ∧ G ≤ maxLen := by rw [← hG]; exact ⟨grownCap_ge _ _ _ _, grownCap_le_maxLen _ _ _ _ (by simp only [maxLen]; omega)⟩
      rw [hG]
      obtain ⟨A, hA⟩ : ∃ A : Array Value, (cs.take k).toArray ++ Builtin.zeroCells (Value.slice none 0 0).cells (ps.length + 1 - k) ++ Builtin.zeroCells (Value.slice none 0 0).cells (G - (ps.length + 1)) = A := ⟨_, rfl⟩
      have hAs : A.size = G := by
        rw [← hA, Array.size_append, Array.size_append, size_zeroS, size_zeroS]
        simp; omega
      have hAt : ∀ j u, j < k → cs[j]? = some u → A[j]? = some u := fun j u hj hu => by
        have hlt : j < ((cs.take k).toArray).size := by rw [List.size_toArray, List.length_take]; omega
        rw [← hA, Array.append_assoc, Array.getElem?_append_left hlt, List.getElem?_toArray, List.getElem?_take, if_pos hj]; exact hu
      rw [hA]
      have b1 : Blk (w.alloc (.cells A 23)).drew w.heap.size 23 A := Blk.new w 23 A
      obtain ⟨A1, b2, s2⟩ := b1.sets [p.1] k
      obtain ⟨A2, b3, s3⟩ := (show Blk ((w.alloc (.cells A 23)).drew.setCells w.heap.size k [p.1]).drew w.heap.size 23 A1 from b2).sets (cs.drop k) (k + 1)
      have hgr := grown_sets_new (w := w) (Nat.le_refl _) (cs.drop k) (k + 1) (grown_drew (grown_sets_new (Nat.le_refl _) [p.1] k (grown_alloc_drew w (.cells A 23))))
      refine ⟨_, rfl, ⟨?_, fun q hq => ⟨(hmem q hq).1.kept hgr (Apart.none _), fun a n c e hn e' => ?_⟩⟩, grown_none hgr, fun g' e => .inr ?_⟩
      · rw [hlen2, hins]
        refine own_of_cells b3 hbase hgc.1 hgc.2 (by rw [s3, s2, hAs]) (by rw [insAt_len _ _ _ (by omega)]; omega) (fun j u hj => ?_)
        rcases insAt_get (by omega) hj with ⟨hjk, hu⟩ | ⟨rfl, rfl⟩ | ⟨hjk, hu⟩
        · rw [World.cell?_setCells_out _ _ _ _ _ (fun _ _ => .inl (by simp only; omega))]
          show World.cell? ((w.alloc (.cells A 23)).drew.setCells w.heap.size k [p.1]) _ = _
          rw [World.cell?_setCells_out _ _ _ _ _ (fun _ _ => .inl (by simp only; omega))]
          exact (b1.cell j).trans (hAt j u hjk hu)
        · rw [World.cell?_setCells_out _ _ _ _ _ (fun _ _ => .inl (by simp only; omega))]
          have := (b1.set_ j p.1).cell j
          refine this.trans ?_
          rw [Array.getElem?_setIfInBounds_self_of_lt (by omega)]
        · have hjl := (List.getElem?_eq_some_iff.1 hu).1
          have := World.cell?_setCells_in w.heap.size (cs.drop k) (k + 1) ((w.alloc (.cells A 23)).drew.setCells w.heap.size k [p.1]).drew (fun i hi => by
            show (World.cell? ((w.alloc (.cells A 23)).drew.setCells w.heap.size k [p.1]) _).isSome = true
            rw [b2.cell, Array.getElem?_eq_getElem (by rw [s2, hAs]; simp at hi; omega)]; rfl) (j - (k + 1)) hjl
          have hjj : k + 1 + (j - (k + 1)) = j := by omega
          rw [hjj] at this
          rw [this]
          exact (List.getElem?_eq_some_iff.1 hu).2 ▸ rfl
      · have h1 := (hmem q hq).1.block_lt e hn
        have e2 : a.block = w.heap.size := Option.some.inj e'
        omega
      · have e2 : w.heap.size = g' := Option.some.inj e
        omega
    · refine (insSS_room g ps.length cap k vb cs cur p.1 w hkl hc hm hgv hcl hcs hblk (by omega) hx honl hone).mono ?_
      rintro e w' ⟨rfl, rfl⟩
      have hgr : w.grownBy ((w.drew.setCells g (k + 1) (cs.drop k)).setCells g k [p.1]) (some g) := grown_sets _ _ (grown_sets _ _ ⟨rfl, rfl, rfl, Nat.le_refl _, fun _ _ _ => rfl⟩)
      have b1 : Blk w.drew g 23 cur := hblk
      obtain ⟨A1, b2, s2⟩ := b1.sets (cs.drop k) (k + 1)
      obtain ⟨A2, b3, s3⟩ := b2.sets [p.1] k
      refine ⟨_, rfl, ⟨?_, fun q hq => ⟨(hmem q hq).1.kept hgr (hmem q hq).2, (hmem q hq).2⟩⟩, hgr, fun g' e => .inl e⟩
      rw [hlen2, hins]
      refine own_of_cells b3 hbg hc hm (by omega) (by rw [insAt_len _ _ _ (by omega)]; omega) (fun j u hj => ?_)
      rcases insAt_get (by omega) hj with ⟨hjk, hu⟩ | ⟨rfl, rfl⟩ | ⟨hjk, hu⟩
      · rw [World.cell?_setCells_out _ _ _ _ _ (fun _ _ => .inl (by simp only; omega)), World.cell?_setCells_out _ _ _ _ _ (fun _ _ => .inl (by simp only; omega))]
        exact hcs j u hu
      · have := (b2.set_ j p.1).cell j
        refine this.trans ?_
        rw [Array.getElem?_setIfInBounds_self_of_lt (by omega)]
      · have hjl := (List.getElem?_eq_some_iff.1 hu).1
        rw [World.cell?_setCells_out _ _ _ _ _ (fun _ _ => .inr (by simp; omega))]
        have := World.cell?_setCells_in g (cs.drop k) (k + 1) w.drew (fun i hi => by
          rw [b1.cell, Array.getElem?_eq_getElem (by simp at hi; omega)]; rfl) (j - (k + 1)) hjl
        have hjj : k + 1 + (j - (k + 1)) = j := by omega
        rw [hjj] at this
        rw [this]
        exact (List.getElem?_eq_some_iff.1 hu).2 ▸ rfl
end Go.Proofs.YtbmdfnifbimfmaaGreatDoor
