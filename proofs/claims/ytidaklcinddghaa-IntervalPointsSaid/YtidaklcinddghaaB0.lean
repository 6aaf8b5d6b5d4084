import Derived.Test.YtidaklcinddghaaA9
import Derived.Test.YtidaklcinddghaaPm
import Derived.Laws.StructEq
namespace Go.Proofs.Ytidaklcinddghaa
open Go.RowKit Go.Shelf

theorem held23 : Try.prog.stoodInHeld 23 = false := by kernel_rfl
theorem fields23 : Try.prog.underlying 23 = some (.struct (Try.prog.fieldsOf 23)) := by kernel_rfl
theorem guard23 : Try.prog.eqGuardType Try.prog.depth 23 = false := by kernel_rfl
theorem fieldsL23 : (Try.prog.fieldsOf 23).toList = [{ name := "Lo", type := 3, offset := 0, embedded := false, tag := "", pkgPath := "", byteOffset := 0 }, { name := "Hi", type := 3, offset := 1, embedded := false, tag := "", pkgPath := "", byteOffset := 8 }] := by kernel_rfl
theorem eqIn23 (w : World) (a b c d : Int) : (Op.equalIn 10000 23 (.agg #[.int .i64 a, .int .i64 b]) (.agg #[.int .i64 c, .int .i64 d])).run Try.prog w = .ok (a == c && b == d) w := by
  rw [run_equalIn_agg _ _ _ _ _ fields23 held23, fieldsL23]
  have h3 := fun (x y : Int) (W : World) => run_equalIn_int (P := Try.prog) W 9998 3 .i64 .i64 x y Try.underlying3
  cases h1 : (a == c) <;> cases h2 : (b == d) <;> simp [Op.eqFields, part, go_sem, Try.isAgg3, Try.sizeOf3, h3, h1, h2]
theorem neq23 (w : World) (a b c d : Int) : (binOp .neq 23 (.agg #[.int .i64 a, .int .i64 b]) (.agg #[.int .i64 c, .int .i64 d])).run Try.prog w = .ok (.bool (!(a == c && b == d))) w := by
  rw [run_neq_struct, eqIn23]; rfl
theorem eql23 (w : World) (a b c d : Int) : (binOp .eql 23 (.agg #[.int .i64 a, .int .i64 b]) (.agg #[.int .i64 c, .int .i64 d])).run Try.prog w = .ok (.bool (a == c && b == d)) w := by
  rw [run_eql_struct, eqIn23]; rfl

set_option maxHeartbeats 1000000 in
theorem same_any (v1 v2 : Value) (l1 l2 : List (Int × Int)) (w : World) (h1 : SlIv w v1 l1) (h2 : SlIv w v2 l2) :
    Calls Try.prog 17 #[v1, v2] w fun r w' => r = .returned (.bool (decide (l1 = l2))) ∧ Below w.heap.size w w' := by
  obtain ⟨A1, c1, rfl, hc1, hm1, hA1⟩ := h1
  obtain ⟨A2, c2, rfl, hc2, hm2, hA2⟩ := h2
  unfold maxLen at hm1 hm2
  generalize hr : decide (l1 = l2) = r
  have HR := Lib.hid hr
  have H1 := Lib.hid hA1
  have H2 := Lib.hid hA2
  clear hr hA1 hA2
  by_cases hl : l1.length = l2.length
  · have hn : ((l1.length : Int) != (l2.length : Int)) = false := by simp [hl]
    have HL := Lib.hid hl
    have hl1 : l1.length ≤ l2.length := by omega
    clear hl
    go_enter Try.func17, Try.ntmps17
    go_wp2
    go_loopw [5] (fun i wr => ∃ k : Nat, k ≤ l1.length ∧ i = .int .i64 k ∧ l1.take k = l2.take k ∧ Below w.heap.size w wr) (fun i _ => l1.length - (intOf i).toNat)
    case atStart => exact ⟨0, Nat.zero_le _, rfl, rfl, Below.refl _ _⟩
    case round =>
      obtain ⟨k, hk, rfl, heq, hB⟩ := hrel
      have HE := Lib.hid heq
      clear heq
      by_cases hlt : k < l1.length
      · obtain ⟨b1, o1, rfl, hb1, hcell1⟩ := H1.out (by omega)
        obtain ⟨b2, o2, rfl, hb2, hcell2⟩ := H2.out (by omega)
        obtain ⟨x, hx⟩ : ∃ x, l1[k]? = some x := ⟨l1[k], by simp [hlt]⟩
        obtain ⟨y, hy⟩ : ∃ y, l2[k]? = some y := ⟨l2[k]'(by omega), by simp⟩
        have x0 : wr.cell? ⟨b1, o1 + k * 2, none⟩ = some (.int .i64 x.1) := (hB.cell hb1).trans (hcell1 k x hx 0 _ rfl)
        have x1 : wr.cell? ⟨b1, o1 + k * 2 + 1, none⟩ = some (.int .i64 x.2) := (hB.cell hb1).trans (hcell1 k x hx 1 _ rfl)
        have y0 : wr.cell? ⟨b2, o2 + k * 2, none⟩ = some (.int .i64 y.1) := (hB.cell hb2).trans (hcell2 k y hy 0 _ rfl)
        have y1 : wr.cell? ⟨b2, o2 + k * 2 + 1, none⟩ = some (.int .i64 y.2) := (hB.cell hb2).trans (hcell2 k y hy 1 _ rfl)
        have HX := Lib.hid hx
        have HY := Lib.hid hy
        clear hx hy hcell1 hcell2
        have hki : (0 : Int) ≤ (k : Int) := by omega
        have hq := guard23
        have hki2 : (k : Int) < (l1.length : Int) := by omega
        have hki3 : (k : Int) < (l2.length : Int) := by omega
        have hne := neq23
        by_cases hxy : x = y
        · have hb : (!(x.1 == y.1 && x.2 == y.2)) = false := by rw [hxy]; simp
          have HXY := Lib.hid hxy
          clear hxy
          go_wp2_with fail
          go_quiet (fail)
          go_wp2_with fail
          refine ⟨⟨k + 1, by omega, by go_num, ?_, bDrN hB _⟩, by simp [intOf]; omega⟩
          rw [List.take_add_one, List.take_add_one, HE.out, HX.out, HY.out, HXY.out]
        · have hb : (!(x.1 == y.1 && x.2 == y.2)) = true := by
            simp only [Bool.not_eq_true', Bool.and_eq_false_iff, beq_eq_false_iff_ne]
            by_cases h1 : x.1 = y.1
            · exact .inr fun h2 => hxy (Prod.ext h1 h2)
            · exact .inl h1
          have HXY := Lib.hid hxy
          clear hxy
          go_wp2_with fail
          go_quiet (fail)
          go_wp2_with fail
          go_ret
          refine ⟨ret_bool ?_, bDrN hB _⟩
          rw [← HR.out]
          symm
          rw [decide_eq_false_iff_not]
          intro h
          have := HX.out
          rw [h, HY.out] at this
          exact HXY.out (by injection this with h; exact h.symm)
      · go_wp2_with fail
        go_ret
        refine ⟨ret_bool ?_, hB⟩
        rw [← HR.out]
        symm
        rw [decide_eq_true_iff]
        have := HE.out
        rw [List.take_of_length_le (by omega), List.take_of_length_le (by have := HL.out; omega)] at this
        exact this
  · have hn : ((l1.length : Int) != (l2.length : Int)) = true := by simp; omega
    have HL := Lib.hid hl
    clear hl
    go_enter Try.func17, Try.ntmps17
    go_wp2
    go_ret
    refine ⟨ret_bool ?_, Below.refl _ _⟩
    rw [← HR.out]
    symm
    rw [decide_eq_false_iff_not]
    intro h
    exact HL.out (by rw [h])

/-! ### The three list functions, by functions of the list -/
def UnionPost (w : World) (l : List (Int × Int)) (e : Ending) (w' : World) : Prop :=
  ∃ v, e = .returned (.tuple #[v, .int .i64 (chkAll l)]) ∧ w'.ownsRow w.heap.size 23 2 v (unionR l).length ((unionR l).flatMap encIv) ∧ Below w.heap.size w w'
theorem Union_c (v : Value) (l : List (Int × Int)) (w : World) (h : SlIv w v l) (hlen : l.length ≤ 1000000) : Calls Try.prog 11 #[v] w (UnionPost w l) := by
  refine (Union_any v l w h hlen).mono ?_
  rintro e w' ⟨v', l', rfl, h1, h2, h3, h4⟩
  refine ⟨v', rfl, ?_, h4⟩
  have e : unionR l = joinL l' := by
    unfold unionR
    by_cases hk : chkAll l = 0
    · rw [if_pos hk, joinL_eq (ok_le hk) (h1 hk).1 (h1 hk).2]
    · rw [if_neg hk, h2 hk]; rfl
  rw [e]; exact h3
theorem Inside_c (i : Int × Int) (v : Value) (l : List (Int × Int)) (w : World) (h : SlIv w v l) (hlen : l.length ≤ 1000000) :
    Calls Try.prog 13 #[ivV i, v] w fun e w' => e = .returned (.tuple #[.bool (insideR i l), .int .i64 (bothE i l)]) ∧ Below w.heap.size w w' := by
  refine (Inside_any i v l w h hlen).mono ?_
  rintro e w' ⟨l', h1, h2, rfl, h4⟩
  refine ⟨?_, h4⟩
  have e : insideR i l = (joinL l').any (withinB i) := by
    unfold insideR
    by_cases hk : bothE i l = 0
    · rw [if_pos hk, joinL_eq (ok_le (bothE_zero hk).2) (h1 hk).1 (h1 hk).2]
    · rw [if_neg hk, h2 hk]; rfl
  rw [e]
def WithoutPost (w : World) (i : Int × Int) (l : List (Int × Int)) (e : Ending) (w' : World) : Prop :=
  ∃ v, e = .returned (.tuple #[v, .int .i64 (bothE i l)]) ∧ w'.ownsRow w.heap.size 23 2 v (withoutR i l).length ((withoutR i l).flatMap encIv) ∧ Below w.heap.size w w'
theorem Without_c (i : Int × Int) (v : Value) (l : List (Int × Int)) (w : World) (h : SlIv w v l) (hlen : l.length ≤ 1000000) : Calls Try.prog 15 #[ivV i, v] w (WithoutPost w i l) := by
  refine (Without_any i v l w h hlen).mono ?_
  rintro e w' ⟨v', l', x, h1, h2, rfl, h3, h4⟩
  refine ⟨v', rfl, ?_, h4⟩
  have e : withoutR i l = x := by
    rw [h2]
    unfold withoutR
    by_cases hk : bothE i l = 0
    · rw [if_pos hk, if_pos hk, joinL_eq (ok_le (bothE_zero hk).2) (h1 hk).1 (h1 hk).2]
    · rw [if_neg hk, if_neg hk]
  rw [e]; exact h3
end Go.Proofs.Ytidaklcinddghaa
