/- Walks: minimal, Minimal. -/
import Derived.Test.YtbmdfnifbimfmaaGreatDoorH7
import Derived.WalkMore
import Derived.Deep.LoopGhost
namespace Go.Proofs.YtbmdfnifbimfmaaGreatDoor
open Go.RowKit

noncomputable def minF (acc : List (List Int)) (s : List Int) : List (List Int) := @ite _ (∃ t ∈ acc, PSub t s) (Classical.propDecidable _) acc (acc ++ [s])
theorem minF_pos {acc : List (List Int)} {s : List Int} (h : ∃ t ∈ acc, PSub t s) : minF acc s = acc := by unfold minF; exact if_pos h
theorem minF_neg {acc : List (List Int)} {s : List Int} (h : ¬ ∃ t ∈ acc, PSub t s) : minF acc s = acc ++ [s] := by unfold minF; exact if_neg h
noncomputable def minL (S : List (List Int)) : List (List Int) := S.foldl minF []
theorem minL_snoc {S : List (List Int)} {k : Nat} {x : List Int} (hx : S[k]? = some x) : minL (S.take (k + 1)) = minF (minL (S.take k)) x := by
  unfold minL; rw [take_snoc hx, List.foldl_append]; rfl

/-- M is the list of the minimal elements of L, in order. -/
def IsMin (L M : List (List Int)) : Prop := M.Pairwise ltS ∧ ∀ l, l ∈ M ↔ l ∈ L ∧ ∀ t ∈ L, ¬ PSub t l
theorem IsMin.unique {L M N : List (List Int)} (h1 : IsMin L M) (h2 : IsMin L N) : M = N := sorted_unique h1.1 h2.1 fun x => (h1.2 x).trans (h2.2 x).symm
theorem psub_trans {a b c : List Int} (h1 : PSub a b) (h2 : PSub b c) : PSub a c := ⟨Nat.lt_trans h1.1 h2.1, fun x hx => h2.2 x (h1.2 x hx)⟩
theorem psub_lt {a b : List Int} (h : PSub a b) : ltS a b := ltS_of_len h.1

theorem minL_spec : ∀ (k : Nat) (S : List (List Int)), S.Pairwise ltS → k ≤ S.length → IsMin (S.take k) (minL (S.take k))
  | 0, S, _, _ => by
    have : S.take 0 = [] := rfl
    rw [this]
    exact ⟨List.Pairwise.nil, fun l => by simp [minL]⟩
  | k + 1, S, hS, hk => by
    obtain ⟨x, hx⟩ := get_some (l := S) (k := k) (by omega)
    obtain ⟨h1, h2⟩ := minL_spec k S hS (by omega)
    have hlt : ∀ t ∈ S.take k, ltS t x := by
      intro t ht
      obtain ⟨i, hi, rfl⟩ := List.getElem_of_mem ht
      rw [List.length_take] at hi
      obtain ⟨hk', rfl⟩ := List.getElem?_eq_some_iff.1 hx
      rw [List.getElem_take]
      exact List.pairwise_iff_getElem.1 hS i k (by omega) hk' (by omega)
    have hnx : ∀ l ∈ S.take k, ¬ PSub x l := fun l hl h => ltS_asymm (psub_lt h) (hlt l hl)
    rw [minL_snoc hx, take_snoc hx]
    have key : (∃ t ∈ minL (S.take k), PSub t x) ↔ ∃ t ∈ S.take k, PSub t x := by
      constructor
      · rintro ⟨t, ht, hp⟩; exact ⟨t, ((h2 t).1 ht).1, hp⟩
      · rintro ⟨t, ht, hp⟩
        -- the shortest one below t is minimal
        have : ∀ (n : Nat) (t : List Int), t.length ≤ n → t ∈ S.take k → PSub t x → ∃ t ∈ minL (S.take k), PSub t x := by
          intro n
          induction n with
          | zero =>
            intro t hn ht hp
            exact ⟨t, (h2 t).2 ⟨ht, fun u _ hu => by have := hu.1; omega⟩, hp⟩
          | succ n ih =>
            intro t hn ht hp
            by_cases hm : ∃ u ∈ S.take k, PSub u t
            · obtain ⟨u, hu, hut⟩ := hm
              exact ih u (by have := hut.1; omega) hu (psub_trans hut hp)
            · exact ⟨t, (h2 t).2 ⟨ht, fun u hu h => hm ⟨u, hu, h⟩⟩, hp⟩
        exact this _ t (Nat.le_refl _) ht hp
    by_cases hc : ∃ t ∈ minL (S.take k), PSub t x
    · rw [minF_pos hc]
      refine ⟨h1, fun l => ?_⟩
      rw [h2]
      constructor
      · rintro ⟨a, b⟩
        refine ⟨List.mem_append_left _ a, fun t ht => ?_⟩
        rcases List.mem_append.1 ht with ht | ht
        · exact b t ht
        · rw [List.mem_singleton.1 ht]; exact hnx l a
      · rintro ⟨a, b⟩
        rcases List.mem_append.1 a with a | a
        · exact ⟨a, fun t ht => b t (List.mem_append_left _ ht)⟩
        · rw [List.mem_singleton.1 a] at b
          obtain ⟨t, ht, hp⟩ := key.1 hc
          exact absurd hp (b t (List.mem_append_left _ ht))
    · rw [minF_neg hc]
      refine ⟨List.pairwise_append.2 ⟨h1, List.pairwise_singleton _ _, fun a ha b hb => ?_⟩, fun l => ?_⟩
      · rw [List.mem_singleton.1 hb]; exact hlt a ((h2 a).1 ha).1
      · rw [List.mem_append, h2, List.mem_append, List.mem_singleton]
        constructor
        · rintro (⟨a, b⟩ | rfl)
          · refine ⟨.inl a, fun t ht => ?_⟩
            rcases List.mem_append.1 ht with ht | ht
            · exact b t ht
            · rw [List.mem_singleton.1 ht]; exact hnx l a
          · refine ⟨.inr rfl, fun t ht hp => ?_⟩
            rcases List.mem_append.1 ht with ht | ht
            · exact hc (key.2 ⟨t, ht, hp⟩)
            · rw [List.mem_singleton.1 ht] at hp; exact absurd hp.1 (by omega)
        · rintro ⟨a | a, b⟩
          · exact .inl ⟨a, fun t ht => b t (List.mem_append_left _ ht)⟩
          · exact .inr a
theorem isMin_of_sorted {L S M : List (List Int)} (hS : IsSorted L S) (h : IsMin S M) : IsMin L M :=
  ⟨h.1, fun l => by rw [h.2, hS.2]; exact ⟨fun ⟨a, b⟩ => ⟨a, fun t ht => b t ((hS.2 t).2 ht)⟩, fun ⟨a, b⟩ => ⟨a, fun t ht => b t ((hS.2 t).1 ht)⟩⟩⟩

def MinPost (w : World) (L : List (List Int)) (e : Ending) (w' : World) : Prop :=
  ∃ v ps, e = .returned v ∧ (OwnP w' w.heap.size v ps ∧ ∀ p ∈ ps, NewB w.heap.size p.1) ∧ IsMin L (ps.map (·.2)) ∧ ps.length ≤ L.length ∧ Below w.heap.size w w'

set_option maxRecDepth 100000 in
set_option maxHeartbeats 4000000 in
theorem minimal_any (v : Value) (L : List (List Int)) (w : World) (h : SS w v L) (hw : wfS L) (hinc : ∀ l ∈ L, Inc l) (hl : L.length ≤ 1000000) (hll : ∀ l ∈ L, l.length ≤ 1000000) (ht : Tab w) :
    Calls Tryz.prog 28 #[v] w (MinPost w L) := by
  obtain ⟨A1, c1, rfl, _⟩ := h.form
  have H := Lib.hid h
  have HW := Lib.hid hw
  have HLL := Lib.hid hll
  have HT := Lib.hid ht
  have HI := Lib.hid hinc
  clear h hw ht hll hinc
  obtain ⟨i0, hi, hz0, hz1, hz2⟩ := info_parts infoS
  go_enter Tryz.func28, Tryz.ntmps28
  go_wp2_with fail
  go_step3
  go_wp2_with fail
  go_step3
  go_wp2_with fail
  refine (sorted_any _ L _ H.out HW.out hl HLL.out HT.out).mono ?_
  rintro e w1 ⟨v1, ps, rfl, ⟨ho1, hnb⟩, hs1, hpl, hB1⟩
  have HNB := Lib.hid hnb
  clear hnb
  obtain ⟨A2, c2, rfl⟩ := own_form ho1.1
  have hsp := ho1.sp
  obtain ⟨A2', c2', hv', _, _, hA⟩ := hsp.1.form
  obtain ⟨rfl, rfl⟩ : A2 = A2' ∧ c2 = c2' := by injection hv' with h1 h2 h3; exact ⟨h1, h3⟩
  have HA := Lib.hid hA
  have HE := Lib.hid hsp.2
  have HS1 := Lib.hid hs1
  have HIN : Hid (∀ p ∈ ps, Inc p.2) := Lib.hid fun p hp => HI.out p.2 ((hs1.2 p.2).1 (List.mem_map.2 ⟨p, hp, rfl⟩))
  have hpm : ps.length ≤ 1000000 := by omega
  clear ho1 hsp hv' hA hs1 H HT HW HLL
  go_wp2_with fail
  go_loopw [2, 10] (fun vo i wr => ∃ (k : Nat) (qs : List (Value × List Int)), k ≤ ps.length ∧ i = .int .i64 k ∧ qs.length ≤ k ∧ Hid (qs.map (·.2) = minL ((ps.map (·.2)).take k)) ∧ Hid (OwnP wr w1.heap.size vo qs) ∧ Hid (∀ q ∈ qs, Inc q.2 ∧ NewB w.heap.size q.1) ∧ Below w1.heap.size w1 wr) (fun _ i _ => ps.length - (intOf i).toNat)
  case atStart => exact ⟨0, [], Nat.zero_le _, rfl, Nat.le_refl _, Lib.hid rfl, Lib.hid (OwnP.nil _ _), Lib.hid (fun _ h => by cases h), Below.refl _ _⟩
  case round =>
    obtain ⟨k, qs, hk, rfl, hqk, HM, HO, HQ, hB⟩ := hrel
    by_cases hlt : k < ps.length
    · obtain ⟨b1, o1, rfl, hb1, hcell⟩ := HA.out (by omega)
      obtain ⟨p, hp⟩ := get_some hlt
      have hu := HE.out p (List.mem_of_getElem? hp)
      have d1 := (hB.cell (p := ⟨b1, o1 + k, none⟩) hb1).trans (hcell k p hp)
      have hpi := HIN.out p (List.mem_of_getElem? hp)
      have hpn := HNB.out p (List.mem_of_getElem? hp)
      have hxx : (ps.map (·.2))[k]? = some p.2 := by rw [List.getElem?_map, hp]; rfl
      have HSN := Lib.hid (minL_snoc hxx)
      clear hcell hp hxx
      obtain ⟨u, x⟩ := p
      dsimp only at hu d1 hpi hpn HSN
      obtain ⟨Au, cu, rfl⟩ := SI.slice_form hu
      have HU0 := Lib.hid hu
      have HU := Lib.hid (S1.up hu hB)
      have HPI := Lib.hid hpi
      have HPN := Lib.hid hpn
      clear hu hpi hpn
      obtain ⟨Aq, cq, rfl⟩ := own_form HO.out.1
      obtain ⟨Aq', cq', hv', _, _, hA'⟩ := HO.out.sp.1.form
      obtain ⟨rfl, rfl⟩ : Aq = Aq' ∧ cq = cq' := by injection hv' with h1 h2 h3; exact ⟨h1, h3⟩
      have HA' := Lib.hid hA'
      have HE' := Lib.hid HO.out.sp.2
      clear hv' hA'
      go_wp2_with fail
      go_loop [16] (fun i => ∃ j : Nat, j ≤ qs.length ∧ i = .int .i64 j ∧ Hid (∀ q ∈ qs.take j, ¬ PSub q.2 x)) (fun i => qs.length - (intOf i).toNat)
      case atStart => exact ⟨0, Nat.zero_le _, rfl, Lib.hid fun _ h => by cases h⟩
      case round =>
        obtain ⟨j, hj, rfl, HR⟩ := hrel
        by_cases hjl : j < qs.length
        · obtain ⟨b2, o2, rfl, hb2, hcell⟩ := HA'.out (by omega)
          obtain ⟨q, hq⟩ := get_some hjl
          have d2 := hcell j q hq
          have hqu := HE'.out q (List.mem_of_getElem? hq)
          have HQI := Lib.hid (HQ.out q (List.mem_of_getElem? hq)).1
          have HQM := Lib.hid (List.mem_of_getElem? hq)
          have HQT := Lib.hid (take_snoc hq)
          clear hcell hq
          obtain ⟨uq, y⟩ := q
          dsimp only at hqu d2 HQI
          obtain ⟨Ay, cy, rfl⟩ := SI.slice_form hqu
          have HQU := Lib.hid hqu
          clear hqu
          cases hps : bOf (PSub y x) with
          | true =>
            have HPS := Lib.hid hps
            clear hps
            go_wp2_with fail
            refine (properly_eq _ _ y x _ HQU.out HU.out HQI.out HPI.out HPS.out).mono ?_
            rintro e w2 ⟨rfl, rfl⟩
            go_wp2_with fail
            go_roundw
            case rel => exact ⟨k + 1, qs, by omega, by go_num, by omega, Lib.hid (by rw [HSN.out, ← HM.out, minF_pos ⟨y, List.mem_map.2 ⟨_, HQM.out, rfl⟩, bOf_iff.1 HPS.out⟩]), HO, HQ, hB⟩
            case measure => simp [intOf]; omega
          | false =>
            have HPS := Lib.hid hps
            clear hps
            go_wp2_with fail
            refine (properly_eq _ _ y x _ HQU.out HU.out HQI.out HPI.out HPS.out).mono ?_
            rintro e w2 ⟨rfl, rfl⟩
            go_wp2_with fail
            go_round
            case rel => exact ⟨j + 1, by omega, by go_num, Lib.hid fun q hq => by
                          rw [HQT.out] at hq
                          rcases List.mem_append.1 hq with hq | hq
                          · exact HR.out q hq
                          · rw [List.mem_singleton.1 hq]; exact bOf_false_iff.1 HPS.out⟩
            case measure => simp [intOf]; omega
        · obtain rfl : j = qs.length := by omega
          have HN : Hid (¬ ∃ t ∈ qs.map (·.2), PSub t x) := Lib.hid (by
            rintro ⟨t, ht, hp⟩
            obtain ⟨q, hq, rfl⟩ := List.mem_map.1 ht
            have := HR.out
            rw [List.take_length] at this
            exact this q hq hp)
          clear HR
          have HAP : Hid (Apart (.slice Au x.length cu) (Value.slice Aq qs.length cq).ownBlock) := Lib.hid (apart_old HO.out.1 HU0.out (Nat.le_refl _))
          go_wp2_with (at_builtin; refine wpList_append_own_at _ rfl _ _ 22 rfl w1.heap.size 23 i0 (.slice none 0 0) 1 24 Tryz.underlying22 hi hz0 hz1 hz2 rfl (by decide) _ _ _ rfl (HO.out.1.alloc _) ⟨wr.heap.size, 0, none⟩ 1 1 [.slice Au x.length cu] rfl rfl (new1 _ _ rfl _ _) (one_of_form ⟨_, _, _, rfl⟩) ?a3 ?a4 ?a5 ?_)
          case a3 => simp only [maxLen]; omega
          case a4 => omega
          case a5 => have := hB.size; simp; omega
          intro v4 w4 hown hgrow _ hat
          have HO4 : Hid (OwnP w4 w1.heap.size v4 (qs ++ [(Value.slice Au x.length cu, x)])) := Lib.hid ((HO.out.alloc _).snoc rfl rfl hown hgrow (by simpa using hat) (HU.out.al _) HAP.out)
          have hB4 : Below w1.heap.size w1 w4 := (bAl hB _).grown hgrow (by have := hB.size; simp; omega) (fun k e => (HO.out.1.lt k e).1)
          clear hown hgrow hat
          go_wp2_with fail
          go_roundw
          case rel => exact ⟨k + 1, qs ++ [(Value.slice Au x.length cu, x)], by omega, by go_num, by simp; omega, Lib.hid (by rw [HSN.out, ← HM.out, List.map_append, minF_neg HN.out]; rfl), HO4, Lib.hid (fun q hq => by
                        rcases List.mem_append.1 hq with hq | hq
                        · exact HQ.out q hq
                        · rw [List.mem_singleton.1 hq]; exact ⟨HPI.out, HPN.out⟩), hB4⟩
          case measure => simp [intOf]; omega
    · obtain rfl : k = ps.length := by omega
      go_wp2_with fail
      go_ret
      refine ⟨u2, qs, rfl, ⟨HO.out.lower hB1.size, fun p hp => (HQ.out p hp).2⟩, ?_, Nat.le_trans hqk hpl, bAfter hB1 hB⟩
      have h1 := minL_spec ps.length (ps.map (·.2)) HS1.out.1 (by simp)
      rw [← HM.out, List.take_of_length_le (by simp)] at h1
      exact isMin_of_sorted HS1.out h1

/-- What Minimal returns. -/
def MinimalPost (w : World) (L : List (List Int)) (e : Ending) (w' : World) : Prop :=
  ∃ v M, e = .returned (.tuple #[v, .int .i64 (if bOf (ValidAll L) then 0 else 1)]) ∧ SS w' v M ∧ (ValidAll L → IsMin L M) ∧ (¬ ValidAll L → M = []) ∧ M.length ≤ L.length ∧ Below w.heap.size w w'

set_option maxHeartbeats 1000000 in
theorem Minimal_any (v : Value) (L : List (List Int)) (w : World) (h : SS w v L) (hl : L.length ≤ 1000000) (hll : ∀ l ∈ L, l.length ≤ 1000000) (ht : Tab w) :
    Calls Tryz.prog 11 #[v] w (MinimalPost w L) := by
  have H := Lib.hid h
  have HLL := Lib.hid hll
  have HT := Lib.hid ht
  clear h ht hll
  cases hv : bOf (ValidAll L) with
  | true =>
    have HV := Lib.hid hv
    clear hv
    have HVA := Lib.hid (bOf_iff.1 HV.out)
    go_enter Tryz.func11, Tryz.ntmps11
    go_wp2_with fail
    refine (valid_eq _ L _ H.out HV.out).mono ?_
    rintro e w1 ⟨rfl, rfl⟩
    go_wp2_with fail
    refine (minimal_any _ L _ H.out (fun l hl x hx => wfI_of (by have := (HVA.out l hl).1 x hx; omega) (by have := (HVA.out l hl).1 x hx; omega)) (fun l hl => (HVA.out l hl).2) hl HLL.out HT.out).mono ?_
    rintro e w1 ⟨v1, ps, rfl, ⟨ho, _⟩, hm, hpl, hB⟩
    have HO := Lib.hid ho
    have HM := Lib.hid hm
    clear ho hm
    go_wp2_with fail
    go_ret2
    exact ⟨v1, ps.map (·.2), by rw [HV.out]; rfl, HO.out.ss, fun _ => HM.out, fun h => absurd HVA.out h, by rw [List.length_map]; exact hpl, hB⟩
  | false =>
    have HV := Lib.hid hv
    clear hv
    go_enter Tryz.func11, Tryz.ntmps11
    go_wp2_with fail
    refine (valid_eq _ L _ H.out HV.out).mono ?_
    rintro e w1 ⟨rfl, rfl⟩
    go_wp2_with fail
    go_ret2
    exact ⟨.slice none 0 0, [], by rw [HV.out]; rfl, SS.nil _, fun h => absurd h (bOf_false_iff.1 HV.out), fun _ => rfl, Nat.zero_le _, Below.refl _ _⟩
end Go.Proofs.YtbmdfnifbimfmaaGreatDoor
