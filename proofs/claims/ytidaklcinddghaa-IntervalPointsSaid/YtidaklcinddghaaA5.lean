import Derived.Test.YtidaklcinddghaaA4
namespace Go.Proofs.Ytidaklcinddghaa
open Go.RowKit Go.Shelf Go.Sort
attribute [local go_sem] Oper.semAt_some

/-- What union makes: a function value that has captured the box at w.heap.size, which holds a slice of the sorted intervals. -/
def RetUnion (w : World) (l : List (Int × Int)) (e : Ending) (w' : World) : Prop :=
  e = .returned (.func (.func 47) #[] #[.pointer (some ⟨w.heap.size, 0, none⟩)]) ∧ ∃ v, ∃ l' : List (Int × Int), l'.Perm l ∧ l'.Pairwise (fun x y => x.1 ≤ y.1) ∧
    Boxed w' w.heap.size 24 v ∧ w'.ownsRow w.heap.size 23 2 v l'.length (l'.flatMap encIv) ∧ Below w.heap.size w w'

theorem eg51 : ∀ args w, (callFunc 51 args).run Try.prog w = .ok (.enter 51 args) w := enters_of Try.func51 (by kernel_rfl) rfl
theorem eg47 : ∀ args w, (callFunc 47 args).run Try.prog w = .ok (.enter 47 args) w := enters_of Try.func47 (by kernel_rfl) rfl

set_option maxHeartbeats 1000000 in
theorem union_any (v : Value) (l : List (Int × Int)) (w : World) (h : SlIv w v l) (hlen : l.length ≤ 1000000) :
    Calls Try.prog 32 #[v] w (RetUnion w l) := by
  obtain ⟨A, c, rfl, h1⟩ := h
  have H : Hid (SlIv w (.slice A l.length c) l) := Lib.hid ⟨A, c, rfl, h1⟩
  clear h1
  go_enter Try.func32, Try.ntmps32
  go_wp2_with fail
  refine (values_any _ _ _ _).mono ?_
  rintro e w1 ⟨rfl, rfl⟩
  go_wp2_with fail
  obtain ⟨b, hb, hseq⟩ := values_seq (fun _ => True) (w.heap.size + 1) (.slice A l.length c) l (fun _ _ => trivial) ((w.alloc (.cells #[.slice A l.length c] 24)).alloc (.cells #[.slice A l.length c] 24)) ((Blk.newAt _ 24 #[.slice A l.length c] (by simp)).cell 0) (by simp) ((H.out.below (((Below.refl _ _).alloc (Nat.le_refl _) _).alloc (by simp) _)).more (by simp; omega))
  refine (sortedFunc_any 51 _ (fun _ => True) b l _ eg51 hseq hb hlen).mono ?_
  clear hseq hb
  rintro e w1 ⟨v, rfl, l', hp, hs, hrow, hB⟩
  have B0 : Blk w1 w.heap.size 24 #[.slice A l.length c] := bk hB ((Blk.new w _ _).alloc _)
  have hB2 := bAfter (bAl (bAl (Below.refl _ w) _) _) hB
  have c0 : w1.cell? ⟨w.heap.size, 0, none⟩ = some (.slice A l.length c) := B0.cell 0
  have f0 := B0.frozen 0
  obtain ⟨A', n', c', rfl⟩ : ∃ A' n' c', v = .slice A' n' c' := by
    rcases hrow.2 with ⟨rfl, _⟩ | ⟨_, _, _, rfl, _⟩ <;> exact ⟨_, _, _, rfl⟩
  have HR := Lib.hid hrow
  have HS := Lib.hid hs
  clear hrow hs hB
  go_wp2_with fail
  go_ret
  have hX : Boxed w1 w.heap.size 24 (.slice A l.length c) := B0
  refine ⟨rfl, _, l', hp, HS.out, hX.set _, ?_, hB2.setCell (Nat.le_refl _) _⟩
  have hr := HR.out
  refine World.ownsRow.kept ⟨hr.1, ?_⟩ (grownBy_setCell' w1 w.heap.size _) (.inr (hX.not_row (by decide) hr).symm)
  rcases hr.2 with h | ⟨g, cap, cur, h1, h2, h3⟩
  · exact .inl h
  · exact .inr ⟨g, cap, cur, h1, by simp at h2; omega, h3⟩
end Go.Proofs.Ytidaklcinddghaa
