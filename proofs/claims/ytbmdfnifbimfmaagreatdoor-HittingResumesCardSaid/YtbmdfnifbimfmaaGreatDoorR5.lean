/- The reference's Add. -/
import Derived.Test.YtbmdfnifbimfmaaGreatDoorR4
namespace Go.Proofs.YtbmdfnifbimfmaaGreatDoor
open Go.RowKit Go.Shelf

def addF (n : Int) (st : List Int × Bool) (x : Int) : List Int × Bool :=
  ((if st.2 = false ∧ n ≤ x then st.1 ++ [n] else st.1) ++ (if x = n then [] else [x]), st.2 || decide (n ≤ x))
def addS (l : List Int) (n : Int) : List Int × Bool := l.foldl (addF n) ([], false)
/-- The set l with the element n. -/
def addL (l : List Int) (n : Int) : List Int := if (addS l n).2 then (addS l n).1 else (addS l n).1 ++ [n]
theorem addS_succ {l : List Int} {n : Int} {k : Nat} {x : Int} (hx : l[k]? = some x) {st : List Int × Bool} (h : addS (l.take k) n = st) : addS (l.take (k + 1)) n = addF n st x := by
  rw [take_snoc hx, ← h]; simp [addS]
theorem oneI (x : Int) : ∀ u ∈ [iV x], u.oneCell' = true := fun u hu => by rw [List.mem_singleton.1 hu]; rfl

set_option maxRecDepth 100000 in
set_option maxHeartbeats 4000000 in
theorem rAdd_any (v : Value) (l : List Int) (n : Int) (w : World) (h : SI w v l) (hl : l.length ≤ 1000000) : Calls Tryz.prog 57 #[v, .int .i64 n] w (RetI w (addL l n)) := by
  obtain ⟨A1, c1, rfl, hc1, hm1, hA1⟩ := h.form
  obtain ⟨i0, hi, hz0, hz1, hz2⟩ := info_parts info3
  have HA := Lib.hid hA1
  unfold maxLen at hm1
  clear h hA1
  have HMADE : Hid ((w.alloc (.cells #[] 3)).ownsRow w.heap.size 3 1 (.slice (some ⟨w.heap.size, 0, none⟩) 0 0) ([] : List Int).length (([] : List Int).map iV)) := Lib.hid (World.ownsRow_made w #[] 0 (Nat.le_refl _) (by simp [maxLen]) rfl)
  have hB0 : Below w.heap.size w (w.alloc (.cells #[] 3)) := (Below.refl _ _).alloc (Nat.le_refl _) _
  go_enter Tryz.func57, Tryz.ntmps57
  go_wp2_with fail
  go_loopw [5, 6, 7] (fun ov dv i wr => ∃ (k : Nat) (out : List Int) (d : Bool), k ≤ l.length ∧ out.length ≤ 2 * k ∧ i = .int .i64 k ∧ dv = .bool d ∧ Hid (addS (l.take k) n = (out, d)) ∧ Hid (wr.ownsRow w.heap.size 3 1 ov out.length (out.map iV)) ∧ Below w.heap.size w wr) (fun _ _ i _ => l.length - (intOf i).toNat)
  case atStart => exact ⟨0, [], false, Nat.zero_le _, Nat.zero_le _, rfl, rfl, Lib.hid rfl, HMADE, hB0⟩
  case round =>
    clear HMADE hB0
    obtain ⟨k, out, d, hk, hol, rfl, rfl, HS, HR, hB⟩ := hrel
    obtain ⟨Ao, co, hfo⟩ := own_form HR.out
    subst hfo
    by_cases hlt : k < l.length
    · obtain ⟨b1, o1, rfl, hb1, hcell⟩ := HA.out (by omega)
      obtain ⟨x, hx⟩ := get_some hlt
      have d1 : wr.cell? ⟨b1, o1 + k, none⟩ = some (.int .i64 x) := (hB.cell (p := ⟨b1, o1 + k, none⟩) hb1).trans (hcell k x hx)
      have HX := Lib.hid hx
      have HB1 := Lib.hid hb1
      clear hx hcell
      have HC : Hid (w.cell? ⟨b1, o1 + k, none⟩ = some (.int .i64 x)) := Lib.hid ((hB.cell (p := ⟨b1, o1 + k, none⟩) hb1).symm.trans d1)
      by_cases hA : d = false ∧ n ≤ x
      · obtain ⟨rfl, hnx⟩ := hA
        have q1 : decide (n ≤ x) = true := by simp; omega
        go_wp2_with (at_builtin; refine wpList_append_own _ rfl _ _ 23 rfl w.heap.size 3 i0 (.int .i64 0) 1 8 Tryz.underlying23 hi hz0 hz1 hz2 rfl (by decide) _ _ _ rfl (HR.out.alloc _) ⟨wr.heap.size, 0, none⟩ 1 1 [iV n] rfl rfl (new1 _ _ rfl _ _) (oneI _) ?a3 ?a4 ?a5 ?_)
        case a3 => simp only [maxLen]; omega
        case a4 => omega
        case a5 => have := hB.size; simp; omega
        intro va wa howna hgrowa _
        have hBa : Below w.heap.size w wa := grown_below (bAl hB _) hgrowa (fun k e => (HR.out.lt k e).1)
        have HRa : Hid (wa.ownsRow w.heap.size 3 1 va (out ++ [n]).length ((out ++ [n]).map iV)) := Lib.hid (by simpa using howna)
        obtain ⟨Aa, qa, hfa⟩ := own_form howna
        subst hfa
        clear howna hgrowa
        have e1 : wa.cell? ⟨b1, o1 + k, none⟩ = some (.int .i64 x) := (hBa.cell (p := ⟨b1, o1 + k, none⟩) HB1.out).trans HC.out
        by_cases hxn : x = n
        · have HXN := Lib.hid hxn
          have q2 : (x != n) = false := by simp [hxn]
          clear hxn
          go_wp2_with fail
          go_roundw
          case rel => exact ⟨k + 1, out ++ [n], true, by omega, by (first | omega | (simp only [List.length_append, List.length_cons, List.length_nil]; omega)), by go_num, rfl, Lib.hid (by rw [addS_succ HX.out HS.out]; unfold addF; simp [HXN.out]), HRa, hBa⟩
          case measure => simp [intOf]; omega
        · have q2 : (x != n) = true := by simp [hxn]
          go_wp2_with (at_builtin; refine wpList_append_own _ rfl _ _ 23 rfl w.heap.size 3 i0 (.int .i64 0) 1 8 Tryz.underlying23 hi hz0 hz1 hz2 rfl (by decide) _ _ _ rfl (HRa.out.alloc _) ⟨wa.heap.size, 0, none⟩ 1 1 [iV x] rfl rfl (new1 _ _ rfl _ _) (oneI _) ?b3 ?b4 ?b5 ?_)
          case b3 => simp only [maxLen, List.length_append, List.length_cons, List.length_nil]; omega
          case b4 => simp only [List.length_append, List.length_cons, List.length_nil]; omega
          case b5 => have := hBa.size; simp; omega
          intro vb wb hownb hgrowb _
          have hBb : Below w.heap.size w wb := grown_below (bAl hBa _) hgrowb (fun k e => (HRa.out.lt k e).1)
          have HRb : Hid (wb.ownsRow w.heap.size 3 1 vb ((out ++ [n]) ++ [x]).length (((out ++ [n]) ++ [x]).map iV)) := Lib.hid (by simpa using hownb)
          obtain ⟨Ab, qb, hfb⟩ := own_form hownb
          subst hfb
          clear hownb hgrowb
          go_wp2_with fail
          go_roundw
          case rel => exact ⟨k + 1, out ++ [n] ++ [x], true, by omega, by (first | omega | (simp only [List.length_append, List.length_cons, List.length_nil]; omega)), by go_num, rfl, Lib.hid (by rw [addS_succ HX.out HS.out]; unfold addF; simp [hxn, hnx]), HRb, hBb⟩
          case measure => simp [intOf]; omega
      · have q1 : ∀ (hd : d = false), decide (n ≤ x) = false := fun hd => decide_eq_false fun h => hA ⟨hd, h⟩
        by_cases hxn : x = n
        · have hd : d = true := by
            cases d with
            | true => rfl
            | false => exact absurd ⟨rfl, by omega⟩ hA
          subst hd
          have HXN := Lib.hid hxn
          have q2 : (x != n) = false := by simp [hxn]
          clear hxn q1 hA
          go_wp2_with fail
          go_roundw
          case rel => exact ⟨k + 1, out, true, by omega, by (first | omega | (simp only [List.length_append, List.length_cons, List.length_nil]; omega)), by go_num, rfl, Lib.hid (by rw [addS_succ HX.out HS.out]; unfold addF; simp [HXN.out]), HR, hB⟩
          case measure => simp [intOf]; omega
        · have q2 : (x != n) = true := by simp [hxn]
          have HE : Hid (addF n (out, d) x = (out ++ [x], d)) := Lib.hid (by
            unfold addF
            cases d with
            | true => simp [hxn]
            | false =>
              have hnx : ¬ n ≤ x := fun h => hA ⟨rfl, h⟩
              simp [hxn, hnx])
          cases d with
          | true =>
            clear q1 hA
            go_wp2_with (at_builtin; refine wpList_append_own _ rfl _ _ 23 rfl w.heap.size 3 i0 (.int .i64 0) 1 8 Tryz.underlying23 hi hz0 hz1 hz2 rfl (by decide) _ _ _ rfl (HR.out.alloc _) ⟨wr.heap.size, 0, none⟩ 1 1 [iV x] rfl rfl (new1 _ _ rfl _ _) (oneI _) ?c3 ?c4 ?c5 ?_)
            case c3 => simp only [maxLen]; omega
            case c4 => omega
            case c5 => have := hB.size; simp; omega
            intro vc wc hownc hgrowc _
            have hBc : Below w.heap.size w wc := grown_below (bAl hB _) hgrowc (fun k e => (HR.out.lt k e).1)
            have HRc : Hid (wc.ownsRow w.heap.size 3 1 vc (out ++ [x]).length ((out ++ [x]).map iV)) := Lib.hid (by simpa using hownc)
            obtain ⟨Ac, qc, hfc⟩ := own_form hownc
            subst hfc
            clear hownc hgrowc
            go_wp2_with fail
            go_roundw
            case rel => exact ⟨k + 1, out ++ [x], true, by omega, by (first | omega | (simp only [List.length_append, List.length_cons, List.length_nil]; omega)), by go_num, rfl, Lib.hid (by rw [addS_succ HX.out HS.out]; exact HE.out), HRc, hBc⟩
            case measure => simp [intOf]; omega
          | false =>
            have q3 := q1 rfl
            clear q1 hA
            go_wp2_with (at_builtin; refine wpList_append_own _ rfl _ _ 23 rfl w.heap.size 3 i0 (.int .i64 0) 1 8 Tryz.underlying23 hi hz0 hz1 hz2 rfl (by decide) _ _ _ rfl (HR.out.alloc _) ⟨wr.heap.size, 0, none⟩ 1 1 [iV x] rfl rfl (new1 _ _ rfl _ _) (oneI _) ?e3 ?e4 ?e5 ?_)
            case e3 => simp only [maxLen]; omega
            case e4 => omega
            case e5 => have := hB.size; simp; omega
            intro ve we howne hgrowe _
            have hBe : Below w.heap.size w we := grown_below (bAl hB _) hgrowe (fun k e => (HR.out.lt k e).1)
            have HRe : Hid (we.ownsRow w.heap.size 3 1 ve (out ++ [x]).length ((out ++ [x]).map iV)) := Lib.hid (by simpa using howne)
            obtain ⟨Ae, qe, hfe⟩ := own_form howne
            subst hfe
            clear howne hgrowe
            go_wp2_with fail
            go_roundw
            case rel => exact ⟨k + 1, out ++ [x], false, by omega, by (first | omega | (simp only [List.length_append, List.length_cons, List.length_nil]; omega)), by go_num, rfl, Lib.hid (by rw [addS_succ HX.out HS.out]; exact HE.out), HRe, hBe⟩
            case measure => simp [intOf]; omega
    · obtain rfl : k = l.length := by omega
      have HF : Hid (addS l n = (out, d)) := Lib.hid (by have := HS.out; rwa [List.take_length] at this)
      clear HS
      cases d with
      | true =>
        go_wp2_with fail
        go_ret
        exact ⟨_, rfl, by unfold addL; rw [HF.out]; exact HR.out, hB⟩
      | false =>
        go_wp2_with (at_builtin; refine wpList_append_own _ rfl _ _ 23 rfl w.heap.size 3 i0 (.int .i64 0) 1 8 Tryz.underlying23 hi hz0 hz1 hz2 rfl (by decide) _ _ _ rfl (HR.out.alloc _) ⟨wr.heap.size, 0, none⟩ 1 1 [iV n] rfl rfl (new1 _ _ rfl _ _) (oneI _) ?f3 ?f4 ?f5 ?_)
        case f3 => simp only [maxLen]; omega
        case f4 => omega
        case f5 => have := hB.size; simp; omega
        intro vf wf hownf hgrowf _
        have hBf : Below w.heap.size w wf := grown_below (bAl hB _) hgrowf (fun k e => (HR.out.lt k e).1)
        have HRf : Hid (wf.ownsRow w.heap.size 3 1 vf (out ++ [n]).length ((out ++ [n]).map iV)) := Lib.hid (by simpa using hownf)
        obtain ⟨Af, qf, hff⟩ := own_form hownf
        subst hff
        clear hownf hgrowf
        go_wp2_with fail
        go_ret
        exact ⟨_, rfl, by unfold addL; rw [HF.out]; exact HRf.out, hBf⟩
end Go.Proofs.YtbmdfnifbimfmaaGreatDoor
