/- ends: a list of integers that the law looks at. -/
import Derived.Test.YtidaklcinddghaaE0
namespace Go.Proofs.Ytidaklcinddghaa
open Go.RowKit Go.Shelf

def encI (x : Int) : List Value := [.int .i64 x]
abbrev SlI (w : World) (v : Value) (l : List Int) : Prop := Sl w w.heap.size encI 1 v l
theorem encI_one (x : Int) : ∀ u ∈ encI x, u.oneCell' = true := by
  intro u hu
  simp [encI] at hu
  subst hu; rfl
theorem info3 : (Try.prog.info? 3).map (fun i => (i.zero, i.size, i.bytes)) = some (some (.int .i64 0), 1, 8) := by kernel_rfl
theorem slLitI (w : World) (n : Nat) (hn : n = w.heap.size) (t : TypeId) (cs : Array Value) (l : List Int) (m : Nat) (hm : m = l.length) (h : cs = (l.flatMap encI).toArray) (hl : l.length ≤ 1000000) :
    SlI (w.alloc (.cells cs t)) (.slice (some ⟨n, 0, none⟩) m m) l := by
  subst hn hm h
  refine ⟨_, l.length, rfl, Nat.le_refl _, by simp only [maxLen]; omega, fun _ => ⟨w.heap.size, 0, rfl, by simp, ?_⟩⟩
  intro i x hi j u hj
  have hj2 : j < 1 := by
    rcases Nat.lt_or_ge j 1 with h | h
    · exact h
    · rw [List.getElem?_eq_none (by simp [encI]; exact h)] at hj; cases hj
  have hf := flatMap_get encI 1 (fun _ => rfl) l i j x hi hj2
  rw [cell_alloc_new]
  rw [hj] at hf
  simpa using hf
theorem own_slI {w : World} {base n₀ : Nat} {v : Value} {l : List Int} (h : w.ownsRow base 3 1 v l.length (l.flatMap encI)) (hn : w.heap.size ≤ n₀) : Sl w n₀ encI 1 v l := by
  rcases h.2 with ⟨rfl, h0⟩ | ⟨g, cap, cur, rfl, hb, hg, hn', hm, hs, ht⟩
  · have : l = [] := List.eq_nil_of_length_eq_zero h0
    subst this
    exact Sl.nil _ _ _ _
  · refine ⟨_, cap, rfl, hn', hm, fun _ => ⟨g, 0, rfl, Nat.lt_of_lt_of_le (Array.getElem?_eq_some_iff.1 hg).1 hn, ?_⟩⟩
    intro i x hi j u hj
    have hj2 : j < 1 := by
      rcases Nat.lt_or_ge j 1 with h | h
      · exact h
      · rw [List.getElem?_eq_none (by simp [encI]; exact h)] at hj; cases hj
    have hf := flatMap_get encI 1 (fun _ => rfl) l i j x hi hj2
    rw [hj] at hf
    have := h.cells (g := g) rfl (i * 1 + j) u hf
    rw [add_lit] at this
    rw [← this]
    congr 2
    omega
theorem cell_al {w : World} {p : Addr} {u : Value} (h : w.cell? p = some u) (o : Obj) : (w.alloc o).cell? p = some u :=
  (((Below.refl w.heap.size w).alloc (Nat.le_refl _) o).cell (World.block_lt_of_cell? w p h)).trans h
theorem own_up {W W' : World} {B e size n : Nat} {v : Value} {xs : List Value} (h : W.ownsRow B e size v n xs) (hb : Below W.heap.size W W') : W'.ownsRow B e size v n xs :=
  h.kept (row := none) ⟨hb.os, hb.tape, hb.output, hb.size, fun k hk _ => hb.block k hk⟩ (by rcases h.2 with ⟨rfl, _⟩ | ⟨g, cap, cur, rfl, _⟩ <;> simp [Value.ownBlock])

def EndsPost (w : World) (n : Nat) (e : Ending) (w' : World) : Prop :=
  ∃ v ls, e = .returned v ∧ SlI w' v ls ∧ ls.length ≤ 4 * n ∧ Below w.heap.size w w'

set_option maxRecDepth 100000 in
set_option maxHeartbeats 2000000 in
theorem ends_any (v : Value) (l : List (Int × Int)) (w : World) (h : SlIv w v l) (ho : ∀ x ∈ l, Ok x) (hlen : l.length ≤ 1000) : Calls Try.prog 19 #[v] w (EndsPost w l.length) := by
  obtain ⟨A, c, rfl, hc, hm, hA⟩ := h
  unfold maxLen at hm
  have HA := Lib.hid hA
  have HO := Lib.hid ho
  clear hA ho hc hm
  obtain ⟨i0, hi, hz0, hz1, hz2⟩ := info_parts info3
  go_enter Try.func19, Try.ntmps19
  go_wp2
  go_loopw [3, 4] (fun vo i wr => ∃ (k : Nat) (ls : List Int), k ≤ l.length ∧ i = .int .i64 k ∧ ls.length ≤ 4 * k ∧ Hid (wr.ownsRow w.heap.size 3 1 vo ls.length (ls.flatMap encI)) ∧ Below w.heap.size w wr) (fun _ i _ => l.length - (intOf i).toNat)
  case atStart => exact ⟨0, [], Nat.zero_le _, rfl, by simp, Lib.hid (by exact World.ownsRow_made _ #[] 0 (Nat.le_refl _) (by simp [maxLen]) rfl), (Below.refl _ _).alloc (Nat.le_refl _) _⟩
  case round =>
    obtain ⟨k, ls, hk, rfl, hls, HR, hB⟩ := hrel
    by_cases hlt : k < l.length
    · obtain ⟨b, off, rfl, hb, hcell⟩ := HA.out (by omega)
      obtain ⟨y, hx⟩ : ∃ y, l[k]? = some y := ⟨l[k], by simp [hlt]⟩
      have c0 : wr.cell? ⟨b, off + k * 2, none⟩ = some (.int .i64 y.1) := (hB.cell hb).trans (hcell k y hx 0 _ rfl)
      have c1 : wr.cell? ⟨b, off + k * 2 + 1, none⟩ = some (.int .i64 y.2) := (hB.cell hb).trans (hcell k y hx 1 _ rfl)
      have oy := HO.out y (List.mem_of_getElem? hx)
      unfold Ok at oy
      have g1 : (0 : Int) ≤ (k : Int) := by omega
      have g2 : (k : Int) < (l.length : Int) := by omega
      have wy : IntKind.i64.wrap (y.2 + 1) = y.2 + 1 := IntWalk.i64_in _ (by omega)
      have wx : IntKind.i64.wrap (y.1 - 1) = y.1 - 1 := IntWalk.i64_in _ (by omega)
      have hbs := hB.size
      clear hcell hx
      go_wp2_with fail
      go_region_held3 (fun W => W.cell? ⟨b, off + k * 2, none⟩ = some (.int .i64 y.1) ∧ W.cell? ⟨b, off + k * 2 + 1, none⟩ = some (.int .i64 y.2))
        (first | exact ⟨c0, c1⟩ | exact ⟨cell_al c0 _, cell_al c1 _⟩ | exact ⟨(hB1.cell hb).trans ((hB.cell hb).symm.trans c0), (hB1.cell hb).trans ((hB.cell hb).symm.trans c1)⟩)
        (first
          | (refine step_append_sl _ encI rfl (.tmp 12) (.tmp 35) 35 rfl w.heap.size 3 i0 (.int .i64 0) 1 8 Try.underlying35 hi hz0 hz1 hz2 rfl (by decide) _ _ _ rfl (HR.out.alloc _).drew _ _ [y.1, y.2, y.1 - 1, y.2 + 1] (fun _ => rfl) rfl (slLitI wr wr.heap.size rfl _ _ _ 4 rfl rfl (by simp)) encI_one ?c1 ?c2 ?c3 ?_; (case c1 => (simp only [maxLen]; simp; omega)); (case c2 => (simp; omega)); (case c3 => (simp; omega));
             intro v1 w1 hown hgrow _;
             have hB1 : Below w.heap.size w w1 := (bAl hB _).drew.grown hgrow (by simp; omega) (fun k e => (HR.out.lt k e).1);
             have HO1 : Hid (w1.ownsRow w.heap.size 3 1 v1 (ls ++ [y.1, y.2, y.1 - 1, y.2 + 1]).length ((ls ++ [y.1, y.2, y.1 - 1, y.2 + 1]).flatMap encI)) := Lib.hid (by (rw [List.flatMap_append, List.length_append]; exact hown));
             clear hgrow hown))
      clear wx wy
      go_wp2_with fail
      go_roundw
      case rel => exact ⟨k + 1, _, by omega, by go_num, by simp; omega, HO1, hB1⟩
      case measure => simp [intOf]; omega
    · go_wp2
      go_ret
      exact ⟨_, ls, rfl, own_slI HR.out (Nat.le_refl _), by omega, hB⟩
end Go.Proofs.Ytidaklcinddghaa
