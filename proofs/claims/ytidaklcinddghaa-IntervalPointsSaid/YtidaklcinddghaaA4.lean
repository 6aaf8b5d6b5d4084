import Derived.Test.YtidaklcinddghaaA3
import Derived.Test.YtidaklcinddghaaSort
import Derived.Test.YtidaklcinddghaaShelf
namespace Go.Proofs.Ytidaklcinddghaa
open Go.RowKit Go.Shelf Go.Sort

def cmpI (a b : Int) : Int := if a < b then -1 else if b < a then 1 else 0

theorem isNaN_any (a : Int) (w : World) : Calls Try.prog 52 #[.int .i64 a] w fun r w' => r = .returned (.bool false) ∧ w = w' := by
  have h : (a != a) = false := by simp
  go_enter Try.func52, Try.ntmps52
  go_wp2
  go_ret
  exact ⟨rfl, rfl⟩
theorem compare_any (a b : Int) (w : World) : Calls Try.prog 46 #[.int .i64 a, .int .i64 b] w fun r w' => r = .returned (.int .i64 (cmpI a b)) ∧ w = w' := by
  by_cases h1 : a < b
  all_goals by_cases h2 : b < a
  all_goals first
    | (exfalso; omega)
    | (go_enter Try.func46, Try.ntmps46
       go_wp2_with (go_at_call 52; refine (isNaN_any _ _).mono ?_; rintro e w' ⟨rfl, rfl⟩)
       go_ret
       refine ⟨ret_int ?_, rfl⟩
       unfold cmpI
       first | rw [if_pos (by omega)] | rw [if_neg (by omega), if_pos (by omega)] | rw [if_neg (by omega), if_neg (by omega)])
set_option maxHeartbeats 1000000 in
theorem union1_any (x y : Int × Int) (W : World) : Calls Try.prog 45 #[ivV x, ivV y] W fun e w' => e = .returned (.int .i64 (cmpI x.1 y.1)) ∧ ∃ q os', w' = grow (W.drewN q) os' := by
  have hcon := fun W' => compare_any x.1 y.1 W'
  generalize cmpI x.1 y.1 = r at hcon ⊢
  have HC := Lib.hid hcon
  clear hcon
  go_enter Try.func45, Try.ntmps45
  go_wp2_with (go_at_call 46; refine (HC.out _).mono ?_; rintro e w' ⟨rfl, rfl⟩)
  go_ret
  exact ⟨rfl, 0, _, by rw [alloc_eq_grow, alloc_eq_grow, grow_grow]; rfl⟩

theorem cmpLays45 (blk off size : Nat) (w : World) : CmpLays Try.prog 45 #[] encIv 2 (fun x y => cmpI x.1 y.1) blk off size w :=
  fun _ _ _ _ x y => union1_any x y _

theorem ltLo (x y : Int × Int) : ltOf (fun x y : Int × Int => cmpI x.1 y.1) x y = decide (x.1 < y.1) := by
  unfold ltOf cmpI
  by_cases h1 : x.1 < y.1
  · simp [h1]
  · by_cases h2 : y.1 < x.1 <;> simp [h1, h2]
theorem swoLo : SWO (ltOf fun x y : Int × Int => cmpI x.1 y.1) where
  irrefl x := by rw [ltLo]; simp
  trans x y z h1 h2 := by rw [ltLo] at *; simp at *; omega
  ntrans x y z h1 h2 := by rw [ltLo] at *; simp at *; omega

theorem eg45 : ∀ args w, (callFunc 45 args).run Try.prog w = .ok (.enter 45 args) w := enters_of Try.func45 (by kernel_rfl) rfl

/-- The slice holds a sorted permutation of l; only its own row may have changed. -/
def SortedTo (w : World) (base : Nat) (v : Value) (l : List (Int × Int)) (e : Ending) (w' : World) : Prop :=
  e = .returned (.tuple #[]) ∧ ∃ l' : List (Int × Int), l'.Perm l ∧ l'.Pairwise (fun x y => x.1 ≤ y.1) ∧ w'.ownsRow base 23 2 v l'.length (l'.flatMap encIv) ∧ w.grownBy w' v.ownBlock

theorem sortFunc_any (base : Nat) (v : Value) (l : List (Int × Int)) (w : World) (h : w.ownsRow base 23 2 v l.length (l.flatMap encIv)) (hlen : l.length ≤ 1000000) :
    Calls Try.prog 50 #[v, .func (.func 45) #[] #[]] w (SortedTo w base v l) := by
  rcases h.2 with ⟨rfl, h0⟩ | ⟨g, cap, cur, rfl, hb, hg, hn, hm, hs, ht⟩
  · have hl : l = [] := List.eq_nil_of_length_eq_zero h0
    subst hl
    refine (AnyF.slices_SortFunc_none { Try.sortIv with } none 0 (.func (.func 45) #[] #[]) w).mono ?_
    rintro e w' ⟨rfl, rfl⟩
    exact ⟨rfl, [], List.Perm.refl _, List.Pairwise.nil, h, World.grownBy.refl _ _⟩
  · have hH := ownsRow_holdsK (enc := encIv) (k := 2) (fun _ => rfl) h
    have hlt : g < w.heap.size := (Array.getElem?_eq_some_iff.1 hg).1
    have hcon := AnyQ.slices_SortFunc Try.sortIv 2 Try.isAgg23 Try.sizeOf23 encIv (fun _ => rfl) encIv_one (fun x y => cmpI x.1 y.1) swoLo 45 #[] g 0 cap l.toArray w eg45 (cmpLays45 g 0 _ w) hH hlt (by simp; omega)
    refine hcon.mono ?_
    rintro e w' ⟨rfl, d', n, os, hp, hs', rfl⟩
    have hsz : d'.size = l.length := by simpa using hp.1
    obtain ⟨ho, hgr⟩ := ownsRow_sorted (enc := encIv) (k := 2) (d' := d') (fun _ => rfl) hsz h n os
    refine ⟨rfl, d'.toList, ?_, ?_, ho, hgr⟩
    · have := hp.2.2
      have e : List.take l.length d'.toList = d'.toList := List.take_of_length_le (by simp [hsz])
      simpa [hsz, e] using this
    · rw [List.pairwise_iff_getElem]
      intro i j hi hj hij
      have hi' : i < d'.size := by simpa using hi
      have hj' : j < d'.size := by simpa using hj
      have := hs' i j (Nat.zero_le _) hij (by simpa [hsz] using hj)
      rw [ltLo, getElem!_pos d' i hi', getElem!_pos d' j hj'] at this
      simp at this ⊢
      exact this

/-- The call returns a slice of its own that holds a sorted permutation of l. -/
def RetSorted (w : World) (l : List (Int × Int)) (e : Ending) (w' : World) : Prop :=
  ∃ v, e = .returned v ∧ ∃ l' : List (Int × Int), l'.Perm l ∧ l'.Pairwise (fun x y => x.1 ≤ y.1) ∧ w'.ownsRow w.heap.size 23 2 v l'.length (l'.flatMap encIv) ∧ Below w.heap.size w w'

set_option maxHeartbeats 1000000 in
theorem sortedFunc_any (g : Nat) (lb : Array Value) (p : Int × Int → Prop) (b : Nat) (l : List (Int × Int)) (w : World) (eg : ∀ args w, (callFunc g args).run Try.prog w = .ok (.enter g args) w) (hseq : SeqP g lb p b l w) (hb : b < w.heap.size) (hlen : l.length ≤ 1000000) :
    Calls Try.prog 43 #[.func (.func g) #[] lb, .func (.func 45) #[] #[]] w (RetSorted w l) := by
  have H := Lib.hid (collect_any g lb p b l w eg hseq hb hlen)
  clear eg hseq
  go_enter Try.func43, Try.ntmps43
  go_wp2_with fail
  refine H.out.mono ?_
  rintro e w1 ⟨v, rfl, hrow, hB⟩
  have HR := Lib.hid hrow
  clear hrow
  go_wp2_with fail
  refine (sortFunc_any w.heap.size v l w1 HR.out hlen).mono ?_
  rintro e w2 ⟨rfl, l', hp, hs, hrow2, hg⟩
  have HR2 := Lib.hid hrow2
  have HS := Lib.hid hs
  clear hrow2 hs
  go_wp2_with fail
  go_ret
  refine ⟨v, rfl, l', hp, HS.out, HR2.out, hB.grown hg hB.size fun k e => ?_⟩
  exact (HR.out.lt k e).1
end Go.Proofs.Ytidaklcinddghaa
