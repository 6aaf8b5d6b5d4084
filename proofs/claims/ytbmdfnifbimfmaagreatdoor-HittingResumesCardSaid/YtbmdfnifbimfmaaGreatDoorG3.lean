/- The search: its memory. -/
import Derived.Test.YtbmdfnifbimfmaaGreatDoorF6
import Derived.Test.YtbmdfnifbimfmaaGreatDoorG2
namespace Go.Proofs.YtbmdfnifbimfmaaGreatDoor
open Go.RowKit

def updB (fr : Int → Bool) (x : Int) (b : Bool) : Int → Bool := fun y => if y = x then b else fr y
theorem freeF_upd {S : List (List Int)} {fr : Int → Bool} {x : Int} (hx : x ∈ S.flatten) (b : Bool) : upd (freeF S fr) x (some (.bool b)) = freeF S (updB fr x b) := by
  funext y
  unfold upd freeF updB
  by_cases h : y = x
  · subst h; rw [if_pos rfl, if_pos hx, if_pos rfl]
  · simp only [if_neg h]

section
variable {K : FK} {W W' : World} {now : List Int} {fr : Int → Bool}
theorem Fam.setFree (h : Fam K W now fr) {x : Int} (hx : x ∈ K.S.flatten) {b : Bool} {n : Nat} (hm : MapF W' K3 K.mf n (upd (freeF K.S fr) x (some (.bool b)))) (hg : W.grownBy W' (some K.mf)) : Fam K W' now (updB fr x b) ∧ FIt K W W' := by
  obtain ⟨hC, hS⟩ := h
  have hk : ∀ k, k < W.heap.size → k ≠ K.mf → W'.heap[k]? = W.heap[k]? := fun k h1 h2 => hg.block k h1 (fun e => h2 (Option.some.inj e))
  obtain ⟨nv, hnv, hb, ho⟩ := hS.nowB
  have hab := hk K.a hb.lt hC.ne.2.1
  have hnow : nowB K W' = nowB K W := by unfold nowB; rw [World.cell?_of_block (w := W) (a := ⟨K.a, 4, none⟩) hab]
  rw [freeF_upd hx] at hm
  refine ⟨⟨hC.keep hg.size fun k _ h2 _ _ h5 => hk k (Nat.lt_of_lt_of_le h2 hC.rng.2) h5, ⟨⟨nv, hb.block hab, own_block ho fun g hgg => hk g (ho.lt g hgg).2 fun e => ?_⟩, own_block hS.hits fun g hgg => ?_, hm.few K.S.flatten fun y _ hy => ?_⟩⟩, ⟨hg.os, hg.tape, hg.output, hg.size, fun k h1 h2 _ => hk k h1 fun e => ?_, .inl hnow⟩⟩
  · have := (ho.lt g hgg).1; have := hC.rf.2; omega
  · cases hgg; exact hk K.hb (Nat.lt_of_lt_of_le hC.rh.2 hC.rng.2) hC.ne.2.2
  · unfold freeF at hy
    by_cases hyy : y ∈ K.S.flatten
    · exact hyy
    · rw [if_neg hyy] at hy; exact absurd rfl hy
  · have := hC.rf; omega

/-- A row of integers beside the family. -/
def LRow (K : FK) (W : World) (lv : Value) (l : List Int) : Prop := W.ownsRow K.base 3 1 lv l.length (l.map iV) ∧ ∀ g, lv.ownBlock = some g → nowB K W ≠ some g
def LKeep (K : FK) (W W' : World) : Prop := ∀ lv l, LRow K W lv l → LRow K W' lv l
theorem LKeep.refl (K : FK) (W : World) : LKeep K W W := fun _ _ h => h
theorem LKeep.trans {A B C : World} (h1 : LKeep K A B) (h2 : LKeep K B C) : LKeep K A C := fun lv l h => h2 lv l (h1 lv l h)
theorem FIt.rows (h : FIt K W W') : LKeep K W W' := by
  rintro lv l ⟨h1, h2⟩
  refine ⟨own_block h1 fun g hg => h.same g (h1.lt g hg).2 (.inr (h1.lt g hg).1) fun e => h2 g hg e.symm, fun g hg e => ?_⟩
  rcases h.now with hn | ⟨k, hk, hn⟩
  · exact h2 g hg (hn.symm.trans e)
  · rw [hn] at e; injection e with e
    have := (h1.lt g hg).2
    omega
theorem LRow.si {lv : Value} {l : List Int} (h : LRow K W lv l) : SI W lv l := own_S1 h.1

/-- What the body of a loop over the search keeps. -/
structure KpB (K : FK) (W W' : World) : Prop where
  size : W.heap.size ≤ W'.heap.size
  fam : ∀ k, K.base0 ≤ k → k < K.base → W'.heap[k]? = W.heap[k]?
  ints : ∀ k cs, K.base ≤ k → W.heap[k]? = some (.cells cs 3 (0, 0)) → W'.heap[k]? = some (.cells cs 3 (0, 0))
theorem KpB.refl (K : FK) (W : World) : KpB K W W := ⟨Nat.le_refl _, fun _ _ _ => rfl, fun _ _ _ h => h⟩
theorem KpB.trans {A B C : World} (h1 : KpB K A B) (h2 : KpB K B C) : KpB K A C :=
  ⟨Nat.le_trans h1.size h2.size, fun k a b => (h2.fam k a b).trans (h1.fam k a b), fun k cs a b => h2.ints k cs a (h1.ints k cs a b)⟩
theorem own_ints {B : Nat} {size n : Nat} {v : Value} {xs : List Value} (h : W.ownsRow B 3 size v n xs) (hk : KpB K W W') (hB : K.base ≤ B) : ∀ g, v.ownBlock = some g → W'.heap[g]? = W.heap[g]? := by
  intro g hg
  rcases h.2 with ⟨rfl, _⟩ | ⟨g', cap, cur, rfl, hb, hgg, _⟩
  · cases hg
  · obtain rfl : g' = g := Option.some.inj hg
    rw [hgg]
    exact hk.ints g' cur (Nat.le_trans hB hb) hgg
theorem Fam.kp (h : Fam K W now fr) (hk : KpB K W W') : Fam K W' now fr ∧ nowB K W' = nowB K W := by
  obtain ⟨nv, hnv, _, ho⟩ := h.2.nowB
  exact h.keep hk.size hk.fam fun g hg => own_ints ho hk (Nat.le_refl _) g (hnv.symm.trans hg)
theorem KpB.rows (hF : Fam K W now fr) (hk : KpB K W W') : LKeep K W W' := by
  rintro lv l ⟨h1, h2⟩
  exact ⟨own_block h1 (own_ints h1 hk (Nat.le_refl _)), fun g hg => by rw [(hF.kp hk).2]; exact h2 g hg⟩
theorem LRow.of_new {A : World} {lv : Value} {l : List Int} (hF : Fam K W now fr) (_ : Fam K A now fr) (hb : Below W.heap.size W A) (h : A.ownsRow W.heap.size 3 1 lv l.length (l.map iV)) : LRow K A lv l := by
  refine ⟨ownsRow_base' h hF.1.rng.2, fun g hg e => ?_⟩
  rw [(hF.up hb).2] at e
  obtain ⟨nv, hnv, _, ho⟩ := hF.2.nowB
  have h1 := (ho.lt g (hnv.symm.trans e)).2
  have h2 := (h.lt g hg).1
  omega
end

/-! ### What the search hands out -/
abbrev JT := List (Value × List Int) → World → Prop
def JIt (K : FK) (J : JT) : Prop := ∀ s A B now fr, J s A → Fam K A now fr → FIt K A B → J s B
def YieldOk (K : FK) (m : Nat) (lp : Nat) (J Jx : JT) : Prop :=
  ∀ (pre : List (Value × List Int)) (u : Value) (T : List Int) (W : World) (now : List Int) (fr : Int → Bool), J pre W → Fam K W now fr → LRow K W u T → T.length ≤ 1000000 →
    YieldAt Fence.wide m Tryz.prog lp #[u] W fun e W' => KpB K W W' ∧ ((e = .returned (.bool true) ∧ J (pre ++ [(u, T)]) W') ∨ (e = .returned (.bool false) ∧ Jx (pre ++ [(u, T)]) W'))
def SearchPost (K : FK) (W : World) (now : List Int) (fr : Int → Bool) (pre : List (Value × List Int)) (J Jx : JT) (e : Ending) (W' : World) : Prop :=
  ∃ (b : Bool) (ys : List (Value × List Int)), e = .returned (.bool b) ∧ Fam K W' now fr ∧ LKeep K W W' ∧
    ((b = true ∧ Outs K.S now fr (ys.map (·.2)) ∧ J (pre ++ ys) W') ∨ (b = false ∧ Part K.S now fr (ys.map (·.2)) ∧ Jx (pre ++ ys) W'))
/-- What the search has got when k elements of l were tried. -/
def LoopS (K : FK) (now : List Int) (fr : Int → Bool) (l : List Int) (k : Nat) (pre : List (Value × List Int)) (J Jx : JT) (b : Bool) (W : World) : Prop :=
  ∃ ys : List (Value × List Int), (b = true ∧ OutsK K.S now fr l k (ys.map (·.2)) ∧ J (pre ++ ys) W) ∨ (b = false ∧ Part K.S now fr (ys.map (·.2)) ∧ Jx (pre ++ ys) W)
theorem LoopS.it {K : FK} {now now' : List Int} {fr fr' : Int → Bool} {l : List Int} {k : Nat} {pre : List (Value × List Int)} {J Jx : JT} {b : Bool} {A B : World} (hJ : JIt K J) (hJx : JIt K Jx) (h : LoopS K now fr l k pre J Jx b A) (hF : Fam K A now' fr') (hI : FIt K A B) : LoopS K now fr l k pre J Jx b B := by
  obtain ⟨ys, h1 | h1⟩ := h
  · exact ⟨ys, .inl ⟨h1.1, h1.2.1, hJ _ _ _ _ _ h1.2.2 hF hI⟩⟩
  · exact ⟨ys, .inr ⟨h1.1, h1.2.1, hJx _ _ _ _ _ h1.2.2 hF hI⟩⟩
theorem yield_any {K : FK} {m m' lp : Nat} {J Jx : JT} (h : YieldOk K m lp J Jx) : YieldOk K m' lp J Jx := by
  intro pre u T W now fr h1 h2 h3 h4
  obtain ⟨fn, tmps, assign, body, hy, hR⟩ := h pre u T W now fr h1 h2 h3 h4
  exact ⟨fn, tmps, assign, body, hy, hR.1, fun c cs _ => hR.2 c cs (room_wide _)⟩
end Go.Proofs.YtbmdfnifbimfmaaGreatDoor
