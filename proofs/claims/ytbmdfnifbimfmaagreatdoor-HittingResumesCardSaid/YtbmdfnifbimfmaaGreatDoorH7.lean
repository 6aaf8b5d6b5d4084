/- Walks: slices.Clone, sorted. -/
import Derived.Test.YtbmdfnifbimfmaaGreatDoorH6
import Derived.WalkSpells
namespace Go.Proofs.YtbmdfnifbimfmaaGreatDoor
open Go.RowKit

theorem info3 : (Tryz.prog.info? 3).map (fun i => (i.zero, i.size, i.bytes)) = some (some (.int .i64 0), 1, 8) := by kernel_rfl
theorem infoS : (Tryz.prog.info? 23).map (fun i => (i.zero, i.size, i.bytes)) = some (some (.slice none 0 0), 1, 24) := by kernel_rfl

/-- A row of integers of the call's own. -/
def RetI (w : World) (l : List Int) (e : Ending) (w' : World) : Prop := ∃ v, e = .returned v ∧ w'.ownsRow w.heap.size 3 1 v l.length (l.map iV) ∧ Below w.heap.size w w'

theorem cloneS_any (v : Value) (l : List Int) (w : World) (h : SI w v l) (hl : l.length ≤ 1000000) : Calls Tryz.prog 41 #[v] w (RetI w l) := by
  obtain ⟨A, c, rfl, hc, hm, hA⟩ := h.form
  rcases A with _ | a
  · have h0 : l.length = 0 := by
      rcases Nat.eq_zero_or_pos l.length with h0 | h0
      · exact h0
      · obtain ⟨_, _, e, _⟩ := hA h0; cases e
    have : l = [] := List.eq_nil_of_length_eq_zero h0
    subst this
    refine (Tryz.slices_Clone_nilS _ c w).mono ?_
    rintro e w' ⟨rfl, rfl⟩
    exact ⟨_, rfl, World.ownsRow_nil _ _ _ _, Below.refl _ _⟩
  · by_cases h0 : l.length = 0
    · have : l = [] := List.eq_nil_of_length_eq_zero h0
      subst this
      refine (Tryz.slices_Clone_int_zeroS a c w).mono ?_
      rintro e w' ⟨v', rfl, h1, _, h2⟩
      exact ⟨v', rfl, h1, h2⟩
    · obtain ⟨b, off, e, hb, hcell⟩ := hA (by omega)
      injection e with e
      subst e
      obtain ⟨i0, hi, hz0, hz1, hz2⟩ := info_parts info3
      refine (Tryz.slices_CloneS i0 (.int .i64 0) 1 8 hi hz0 hz1 hz2 rfl (by decide) Tryz.sizeOf3 b off l.length c (l.map iV) w (by simp) (by omega) (by omega) (fun j u hj => ?_) (fun u hu => ?_)).mono ?_
      · rw [List.getElem?_map] at hj
        obtain ⟨x, hx, rfl⟩ := Option.map_eq_some_iff.1 hj
        exact hcell j x hx
      · obtain ⟨x, _, rfl⟩ := List.mem_map.1 hu; rfl
      · rintro e w' ⟨v', rfl, h1, _, h2⟩
        exact ⟨v', rfl, h1, h2⟩

/-! ### Each list once -/
noncomputable def addNew (acc : List (List Int)) (l : List Int) : List (List Int) := if l ∈ acc then acc else acc ++ [l]
noncomputable def uniq (L : List (List Int)) : List (List Int) := L.foldl addNew []
theorem uniq_snoc {L : List (List Int)} {k : Nat} {x : List Int} (hx : L[k]? = some x) : uniq (L.take (k + 1)) = addNew (uniq (L.take k)) x := by
  unfold uniq; rw [take_snoc hx, List.foldl_append]; rfl
theorem addNew_mem (acc : List (List Int)) (x l : List Int) : l ∈ addNew acc x ↔ l ∈ acc ∨ l = x := by
  unfold addNew
  by_cases h : x ∈ acc
  · rw [if_pos h]; constructor
    · exact .inl
    · rintro (h1 | rfl)
      · exact h1
      · exact h
  · rw [if_neg h]; simp
theorem addNew_nodup {acc : List (List Int)} (h : acc.Nodup) (x : List Int) : (addNew acc x).Nodup := by
  unfold addNew
  by_cases hx : x ∈ acc
  · rw [if_pos hx]; exact h
  · rw [if_neg hx]
    exact List.nodup_append.2 ⟨h, by simp, fun a ha b hb e => hx (by rw [List.mem_singleton.1 hb] at e; rw [← e]; exact ha)⟩
theorem fold_mem : ∀ (L acc : List (List Int)) (l : List Int), l ∈ L.foldl addNew acc ↔ l ∈ acc ∨ l ∈ L
  | [], _, _ => by simp
  | _ :: L, _, _ => by rw [List.foldl_cons, fold_mem L, addNew_mem, List.mem_cons, or_assoc]
theorem fold_nodup : ∀ (L acc : List (List Int)), acc.Nodup → (L.foldl addNew acc).Nodup
  | [], _, h => h
  | x :: L, _, h => fold_nodup L _ (addNew_nodup h x)
theorem uniq_mem (L : List (List Int)) (l : List Int) : l ∈ uniq L ↔ l ∈ L := by unfold uniq; rw [fold_mem]; simp
theorem uniq_nodup (L : List (List Int)) : (uniq L).Nodup := fold_nodup L [] List.nodup_nil
theorem addNew_len (acc : List (List Int)) (x : List Int) : (addNew acc x).length ≤ acc.length + 1 := by
  unfold addNew; split
  · omega
  · simp
theorem fold_len : ∀ (L acc : List (List Int)), (L.foldl addNew acc).length ≤ acc.length + L.length
  | [], _ => by simp
  | x :: L, acc => by
    have h1 := fold_len L (addNew acc x)
    have h2 := addNew_len acc x
    simp only [List.foldl_cons, List.length_cons]
    omega
theorem uniq_len (L : List (List Int)) : (uniq L).length ≤ L.length := by have := fold_len L []; unfold uniq; simpa using this

/-- The keys that were seen. -/
noncomputable def K9 : KK Tryz.prog 9 (List UInt8) := strKK Tryz.underlying9
noncomputable def keyF (acc : List (List Int)) : List UInt8 → Option Value := fun s => if ∃ l ∈ acc, keyL l = s then some (.bool true) else none
theorem keyF_key (acc : List (List Int)) (x : List Int) : keyF acc (keyL x) = if x ∈ acc then some (.bool true) else none := by
  unfold keyF
  by_cases h : x ∈ acc
  · rw [if_pos h, if_pos ⟨x, h, rfl⟩]
  · rw [if_neg h, if_neg]; rintro ⟨l, hl, e⟩; rw [keyL_inj e] at hl; exact h hl
theorem keyF_snoc (acc : List (List Int)) (x : List Int) : upd (keyF acc) (keyL x) (some (.bool true)) = keyF (acc ++ [x]) := by
  funext s
  unfold upd keyF
  by_cases h : s = keyL x
  · rw [if_pos h, if_pos ⟨x, by simp, h.symm⟩]
  · rw [if_neg h]
    by_cases h2 : ∃ l ∈ acc, keyL l = s
    · rw [if_pos h2, if_pos]; obtain ⟨l, h3, h4⟩ := h2; exact ⟨l, by simp [h3], h4⟩
    · rw [if_neg h2, if_neg]
      rintro ⟨l, h3, h4⟩
      rcases List.mem_append.1 h3 with h3 | h3
      · exact h2 ⟨l, h3, h4⟩
      · rw [List.mem_singleton.1 h3] at h4; exact h h4.symm
theorem keyF_look {w : World} {b n : Nat} {acc : List (List Int)} (h : MapF w K9 b n (keyF acc)) {x : List Int} (hx : (keyL x).length ≤ maxLen) {c : Bool} (hc : bOf (x ∈ acc) = c) :
    (Instr.lookup 60 (.map (some b)) (.string ⟨(keyL x).toArray⟩) false).run Tryz.prog w = .ok (.bool c) w := by
  have := h.look Tryz.underlying60 (Tryz.zeroValue4 w) (x := keyL x) hx
  rw [keyF_key] at this
  by_cases hin : x ∈ acc
  · rw [if_pos hin] at this; rw [← hc, bOf_true hin]; exact this
  · rw [if_neg hin] at this; rw [← hc, bOf_false hin]; exact this

/-- The lists of L in strict order, each once. -/
def IsSorted (L M : List (List Int)) : Prop := M.Pairwise ltS ∧ ∀ l, l ∈ M ↔ l ∈ L
/-- The slice lies in block B or beyond. -/
def NewB (B : Nat) (u : Value) : Prop := ∀ a n c, u = .slice (some a) n c → 0 < n → B ≤ a.block
theorem newB_of_own {w : World} {B B' : Nat} {e : TypeId} {n : Nat} {u : Value} {xs : List Value} (h : w.ownsRow B e 1 u n xs) (hb : B' ≤ B) : NewB B' u := by
  intro a n' c hu _
  rcases h.2 with ⟨rfl, _⟩ | ⟨g, cap, cur, rfl, hg, _⟩
  · cases hu
  · injection hu with h1 h2 h3
    injection h1 with h1
    subst h1
    exact Nat.le_trans hb hg
def SortedPost (w : World) (L : List (List Int)) (e : Ending) (w' : World) : Prop :=
  ∃ v ps, e = .returned v ∧ (OwnP w' w.heap.size v ps ∧ ∀ p ∈ ps, NewB w.heap.size p.1) ∧ IsSorted L (ps.map (·.2)) ∧ ps.length ≤ L.length ∧ Below w.heap.size w w'

theorem strict_of {M : List (List Int)} (h : M.Pairwise (fun a b => ¬ ltS b a)) (hn : M.Nodup) : M.Pairwise ltS := by
  rw [List.pairwise_iff_getElem] at h ⊢
  intro i j hi hj hij
  rcases ltS_total M[i] M[j] with a | a | a
  · exact a
  · exact absurd ((List.getElem_inj hn).1 a) (by omega)
  · exact absurd a (h i j hi hj hij)

theorem SI.apart_map {P : Program} {k : TypeId} {κ : Type} {K : KK P k κ} {w : World} {u : Value} {l : List Int} {m n : Nat} {f : κ → Option Value} (h : SI w u l) (hm : MapF w K m n f) : Apart u (some m) := by
  intro a n' c e hn he
  obtain ⟨A, c', hv, _, _, hA⟩ := h.form
  rw [e] at hv
  injection hv with h1 h2 h3
  subst h1 h2
  obtain ⟨b, off, hb, _, hcell⟩ := hA hn
  injection hb with hb
  subst hb
  injection he with he
  obtain ⟨x, hx⟩ := get_some hn
  have hc := hcell 0 x hx
  obtain ⟨D, ⟨es, clock, hb, _⟩, _⟩ := hm
  subst he
  simp [World.cell?, hb] at hc
theorem apart_new {w : World} {B : Nat} {e : TypeId} {n : Nat} {u : Value} {xs : List Value} (h : w.ownsRow B e 1 u n xs) {o : Option Nat} (ho : ∀ g, o = some g → g < B) : Apart u o := by
  intro a n' c hu _ he
  rcases h.2 with ⟨rfl, _⟩ | ⟨g, cap, cur, rfl, hb, _⟩
  · cases hu
  · injection hu with h1 h2 h3
    injection h1 with h1
    subst h1
    have := ho g he.symm
    omega
theorem apart_old {w w' : World} {B : Nat} {e : TypeId} {n : Nat} {v u : Value} {xs : List Value} {l : List Int} (h : w.ownsRow B e 1 v n xs) (hu : SI w' u l) (hB : w'.heap.size ≤ B) : Apart u v.ownBlock := by
  intro a n' c e' hn he
  have h1 := hu.block_lt e' hn
  have h2 := (h.lt _ he.symm).1
  omega
theorem new1 (w : World) (n : Nat) (hn : n = w.heap.size) (t : TypeId) (u : Value) : ∀ (j : Nat) (x : Value), [u][j]? = some x → (w.alloc (.cells #[u] t)).cell? ((⟨n, 0, none⟩ : Addr).add j) = some x := by
  subst hn
  intro j x h
  rw [add_lit, cell_alloc_new]
  match j, h with
  | 0, h => simpa using h
  | j + 1, h => simp at h
theorem one_of_form {u : Value} (h : ∃ A n c, u = .slice A n c) : ∀ x ∈ [u], x.oneCell' = true := by
  intro x hx
  obtain ⟨A, n, c, rfl⟩ := h
  rw [List.mem_singleton.1 hx]; rfl

set_option maxRecDepth 100000 in
set_option maxHeartbeats 4000000 in
theorem sorted_any (v : Value) (L : List (List Int)) (w : World) (h : SS w v L) (hw : wfS L) (hl : L.length ≤ 1000000) (hll : ∀ l ∈ L, l.length ≤ 1000000) (ht : Tab w) :
    Calls Tryz.prog 48 #[v] w (SortedPost w L) := by
  obtain ⟨A1, c1, rfl, hc1, hm1, hA1⟩ := h.form
  have H1 := Lib.hid hA1
  have HW := Lib.hid hw
  have HLL := Lib.hid hll
  have HT := Lib.hid ht
  clear hA1 h hm1 hw ht hll hc1
  have hmm := @run_makeMap Tryz.prog
  obtain ⟨i0, hi, hz0, hz1, hz2⟩ := info_parts infoS
  go_enter Tryz.func48, Tryz.ntmps48
  go_wp2_with fail
  go_loopw [2, 10] (fun vo i wr => ∃ (k : Nat) (ps : List (Value × List Int)), k ≤ L.length ∧ i = .int .i64 k ∧ ps.length ≤ k ∧ Hid (ps.map (·.2) = uniq (L.take k)) ∧ Hid (OwnP wr (w.heap.size + 1) vo ps) ∧ Hid (∀ p ∈ ps, NewB w.heap.size p.1) ∧ Hid (MapF wr K9 w.heap.size k (keyF (ps.map (·.2)))) ∧ Below w.heap.size w wr ∧ w.heap.size + 1 ≤ wr.heap.size) (fun _ i _ => L.length - (intOf i).toNat)
  case atStart => exact ⟨0, [], Nat.zero_le _, rfl, Nat.le_refl _, Lib.hid rfl, Lib.hid (OwnP.nil _ _), Lib.hid (fun _ h => by cases h), Lib.hid (by have := MapF.made w K9; exact this.congr fun x _ => by unfold keyF; rw [if_neg (by simp)]), (Below.refl _ _).alloc (Nat.le_refl _) _, by simp⟩
  case round =>
    obtain ⟨k, ps, hk, rfl, hpk, HU, HO, HNB, HM, hB, hsz⟩ := hrel
    by_cases hlt : k < L.length
    · obtain ⟨b1, o1, rfl, hb1, hcell⟩ := H1.out (by omega)
      obtain ⟨x, hx⟩ := get_some hlt
      obtain ⟨u, d0, hu⟩ := hcell k x hx
      obtain ⟨Au, cu, rfl⟩ := SI.slice_form hu
      have d1 := (hB.cell (p := ⟨b1, o1 + k, none⟩) hb1).trans d0
      have HU1 := Lib.hid (S1.up hu hB)
      have hxl := HLL.out x (List.mem_of_getElem? hx)
      have HWx := Lib.hid (HW.out x (List.mem_of_getElem? hx))
      have hkl : (keyL x).length ≤ maxLen := by have := keyL_len x HWx.out; unfold maxLen; omega
      have HKL := Lib.hid hkl
      have HS := Lib.hid (uniq_snoc hx)
      clear hx hu hcell d0 hkl
      go_wp2_with fail
      refine (key_any _ x _ HU1.out HWx.out hxl (HT.out.up hB)).mono ?_
      rintro e w1 ⟨rfl, hB1⟩
      have HM1 := Lib.hid (HM.out.up hB1)
      have HO1 := Lib.hid (HO.out.up hB1)
      have HU2 := Lib.hid (S1.up HU1.out hB1)
      have hBa := bAfter hB hB1
      have hsz1 : w.heap.size + 1 ≤ w1.heap.size := Nat.le_trans hsz hB1.size
      clear HM HO HU1 hB1 d1 hB
      cases hin : bOf (x ∈ ps.map (·.2)) with
      | true =>
        have hlk := keyF_look HM1.out HKL.out hin
        have HI := Lib.hid hin
        clear hin
        go_wp2_with fail
        go_roundw
        case rel => exact ⟨k + 1, ps, by omega, by go_num, by omega, Lib.hid (by rw [HS.out, ← HU.out]; unfold addNew; rw [if_pos (bOf_iff.1 HI.out)]), HO1, HNB, Lib.hid (HM1.out.mono (by omega)), hBa, hsz1⟩
        case measure => simp [intOf]; omega
      | false =>
        have hlk := keyF_look HM1.out HKL.out hin
        have HI := Lib.hid hin
        clear hin
        go_wp2_with (at_mapUpdate; refine wpList_put _ rfl _ _ _ 60 rfl 4 K9 Tryz.underlying60 w.heap.size k _ rfl HM1.out ?c1 (keyL x) HKL.out (.bool true) rfl rfl ?_)
        case c1 => unfold maxLen; omega
        intro w2 hm2 hg2
        rw [keyF_snoc] at hm2
        have HM2 := Lib.hid hm2
        have hB2 := grown_below hBa hg2 (fun k e => by cases e; exact Nat.le_refl _)
        have hsz2 : w.heap.size + 1 ≤ w2.heap.size := Nat.le_trans hsz1 hg2.size
        have HO2 : Hid (OwnP w2 (w.heap.size + 1) u2 ps) := Lib.hid (HO1.out.kept hg2 (by
          rcases hob : u2.ownBlock with _ | g
          · exact .inl rfl
          · refine .inr fun e => ?_
            injection e with e
            have := (HO1.out.1.lt g hob).1
            omega) (fun p hp => (HO1.out.2 p hp).1.apart_map HM1.out))
        have HU3 := Lib.hid (SI.kept HU2.out hg2 (SI.apart_map HU2.out HM1.out))
        clear hm2 hg2 HM1 HO1 HU2 hBa hsz1 hlk
        go_wp2_with fail
        refine (cloneS_any _ x _ HU3.out hxl).mono ?_
        rintro e w3 ⟨v3, rfl, hr3, hB3⟩
        obtain ⟨A3, c3, rfl⟩ := own_form hr3
        have HO3 := Lib.hid (HO2.out.up hB3)
        have HM3 := Lib.hid (HM2.out.up hB3)
        have HS3 : Hid (SI w3 (.slice A3 x.length c3) x) := Lib.hid (own_S1 hr3)
        have HA3 : Hid (Apart (.slice A3 x.length c3) u2.ownBlock) := Lib.hid (apart_new hr3 fun g hg => (HO2.out.1.lt g hg).2)
        have HN3 : Hid (NewB w.heap.size (.slice A3 x.length c3)) := Lib.hid (newB_of_own hr3 (by omega))
        have hBb := bAfter hB2 hB3
        have hsz3 : w.heap.size + 1 ≤ w3.heap.size := Nat.le_trans hsz2 hB3.size
        clear hr3 hB3 HM2 HO2 HU3 hB2 hsz2
        go_wp2_with (at_builtin; refine wpList_append_own_at _ rfl _ _ 22 rfl (w.heap.size + 1) 23 i0 (.slice none 0 0) 1 24 Tryz.underlying22 hi hz0 hz1 hz2 rfl (by decide) _ _ _ rfl (HO3.out.1.alloc _) ⟨w3.heap.size, 0, none⟩ 1 1 [.slice A3 x.length c3] rfl rfl ?a1 ?a2 ?a3 ?a4 ?a5 ?_)
        case a1 => exact new1 _ _ rfl _ _
        case a2 => exact one_of_form ⟨_, _, _, rfl⟩
        case a3 => simp only [maxLen]; omega
        case a4 => omega
        case a5 => simp; omega
        intro v4 w4 hown hgrow _ hat
        have HO4 : Hid (OwnP w4 (w.heap.size + 1) v4 (ps ++ [(Value.slice A3 x.length c3, x)])) := Lib.hid ((HO3.out.alloc _).snoc rfl rfl hown hgrow (by simpa using hat) (HS3.out.al _) HA3.out)
        have hB4 : Below w.heap.size w w4 := (bAl hBb _).grown hgrow (by simp; omega) (fun k e => by have := (HO3.out.1.lt k e).1; omega)
        have HM4 : Hid (MapF w4 K9 w.heap.size (k + 1) (keyF ((ps ++ [(Value.slice A3 x.length c3, x)]).map (·.2)))) := Lib.hid (by
          rw [List.map_append]
          exact (HM3.out.alloc _).kept hgrow (fun e => by have := (HO3.out.1.lt _ e.symm).1; omega))
        have hsz4 : w.heap.size + 1 ≤ w4.heap.size := by have := hgrow.size; simp at this; omega
        clear hown hgrow hat HM3 HO3 HS3 HA3
        go_wp2_with fail
        go_roundw
        case rel => exact ⟨k + 1, ps ++ [(Value.slice A3 x.length c3, x)], by omega, by go_num, by simp; omega, Lib.hid (by rw [HS.out, ← HU.out, List.map_append]; unfold addNew; rw [if_neg (bOf_false_iff.1 HI.out)]; rfl), HO4, Lib.hid (fun p hp => by
                      rcases List.mem_append.1 hp with hp | hp
                      · exact HNB.out p hp
                      · rw [List.mem_singleton.1 hp]; exact HN3.out), HM4, hB4, hsz4⟩
        case measure => simp [intOf]; omega
    · obtain rfl : k = L.length := by omega
      have HUU : Hid (ps.map (·.2) = uniq L) := Lib.hid (by have := HU.out; rwa [List.take_length] at this)
      clear HU
      go_wp2_with fail
      refine (sortSS_any _ _ ps _ HO.out (by omega)).mono ?_
      rintro e w1 ⟨rfl, ps', hp, hs, ho, hg⟩
      have HP := Lib.hid hp
      have HSS := Lib.hid hs
      have HO1 := Lib.hid ho
      have hB1 : Below w.heap.size w w1 := hB.grown hg hB.size (fun k e => by have := (HO.out.1.lt k e).1; omega)
      clear hp hs ho hg
      go_wp2_with fail
      go_ret
      refine ⟨u2, ps', rfl, ⟨HO1.out.lower (by omega), fun p hp => HNB.out p (HP.out.mem_iff.1 hp)⟩, ⟨strict_of HSS.out ?_, fun l => ?_⟩, ?_, hB1⟩
      · exact (HP.out.map (·.2)).nodup_iff.2 (by rw [HUU.out]; exact uniq_nodup L)
      · rw [(HP.out.map (·.2)).mem_iff, HUU.out, uniq_mem]
      · rw [HP.out.length_eq]; exact hpk
end Go.Proofs.YtbmdfnifbimfmaaGreatDoor
