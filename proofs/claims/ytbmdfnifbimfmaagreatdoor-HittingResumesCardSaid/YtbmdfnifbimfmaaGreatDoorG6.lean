/- All: its memory, its plain law. -/
import Derived.Test.YtbmdfnifbimfmaaGreatDoorG5
namespace Go.Proofs.YtbmdfnifbimfmaaGreatDoor
open Go.RowKit Go.Shelf

/-! ### Plain -/
def Sub' (a b : List Int) : Prop := ∀ x ∈ a, x ∈ b
theorem isMin_below {L S : List (List Int)} (hv : ValidAll L) (h : IsMin L S) : ∀ (n : Nat) (l : List Int), l.length ≤ n → l ∈ L → ∃ s ∈ S, ∀ x ∈ s, x ∈ l
  | 0, l, hn, hl => ⟨l, (h.2 l).2 ⟨hl, fun t _ ht => by have := ht.1; omega⟩, fun _ h => h⟩
  | n + 1, l, hn, hl => by
    by_cases hm : ∃ t ∈ L, PSub t l
    · obtain ⟨t, ht, hp⟩ := hm
      obtain ⟨s, hs, hsub⟩ := isMin_below hv h n t (by have := hp.1; omega) ht
      exact ⟨s, hs, fun x hx => hp.2 x (hsub x hx)⟩
    · exact ⟨l, (h.2 l).2 ⟨hl, fun t ht hp => hm ⟨t, ht, hp⟩⟩, fun _ h => h⟩
theorem mhs_min {L S : List (List Int)} (hv : ValidAll L) (h : IsMin L S) (T : List Int) : MHS S T ↔ MHS L T := by
  have hb := fun l hl => isMin_below hv h l.length l (Nat.le_refl _) hl
  constructor
  · rintro ⟨h1, h2, h3⟩
    refine ⟨h1, fun l hl => ?_, fun x hx => ?_⟩
    · obtain ⟨s, hs, hsub⟩ := hb l hl
      obtain ⟨x, hx, hxT⟩ := h2 s hs
      exact ⟨x, hsub x hx, hxT⟩
    · obtain ⟨s, hs, r⟩ := h3 x hx
      exact ⟨s, ((h.2 s).1 hs).1, r⟩
  · rintro ⟨h1, h2, h3⟩
    refine ⟨h1, fun s hs => h2 s ((h.2 s).1 hs).1, fun x hx => ?_⟩
    obtain ⟨l, hl, hxl, hu⟩ := h3 x hx
    obtain ⟨s, hs, hsub⟩ := hb l hl
    obtain ⟨y, hy, hyT⟩ := h2 s ((h.2 s).1 hs).1
    have := hu y (hsub y hy) hyT
    subst this
    exact ⟨s, hs, hy, fun z hz hzT => hu z (hsub z hz) hzT⟩
/-- N is the list of the minimal hitting sets, in order. -/
def IsAll (L N : List (List Int)) : Prop := N.Pairwise ltS ∧ ∀ T, T ∈ N ↔ MHS L T
theorem IsAll.unique {L M N : List (List Int)} (h1 : IsAll L M) (h2 : IsAll L N) : M = N := sorted_unique h1.1 h2.1 fun x => (h1.2 x).trans (h2.2 x).symm
theorem qm_start {S : List (List Int)} {T : List Int} : QM S [] (fun _ => true) T ↔ MHS S T := ⟨fun h => h.1, fun h => ⟨h, fun _ h => (nomatch h), fun _ _ => .inr rfl⟩⟩

def okMost (L : List (List Int)) (most : Int) : Prop := ValidAll L ∧ 0 ≤ most ∧ most ≤ 256
def AllPost (w : World) (L : List (List Int)) (most : Int) (e : Ending) (w' : World) : Prop :=
  ∃ v M c, e = .returned (.tuple #[v, .int .i64 c]) ∧ SS w' v M ∧ Below w.heap.size w w' ∧
    ((¬ okMost L most ∧ M = [] ∧ c = 1) ∨ (okMost L most ∧ IsAll L M ∧ (M.length : Int) ≤ most ∧ c = 0) ∨
      (okMost L most ∧ M = [] ∧ c = 2 ∧ ∃ P : List (List Int), P.Nodup ∧ (∀ T ∈ P, MHS L T) ∧ most < P.length))

/-! ### Memory -/
theorem cells_of_cell {w : World} {a : Addr} {v : Value} (h : w.cell? a = some v) : ∃ o, w.heap[a.block]? = some o ∧ o.isCells = true := by
  unfold World.cell? at h
  cases hb : w.heap[a.block]? with
  | none => rw [hb] at h; simp at h
  | some o =>
    rw [hb] at h
    cases o with
    | cells cs t fz => exact ⟨_, rfl, rfl⟩
    | _ => simp at h
theorem SI.obj {w : World} {u : Value} {l : List Int} (h : SI w u l) {a : Addr} {n c : Nat} (e : u = .slice (some a) n c) (hn : 0 < n) : ∃ o, w.heap[a.block]? = some o ∧ o.isCells = true := by
  obtain ⟨A, c', hv, _, _, hA⟩ := h.form
  rw [e] at hv
  injection hv with h1 h2 h3
  subst h1 h2
  obtain ⟨b, off, hb, _, hcell⟩ := hA hn
  injection hb with hb
  obtain ⟨x, hx⟩ := get_some hn
  have := cells_of_cell (hcell 0 x hx)
  rw [hb]
  exact this
theorem own_obj {w : World} {B : Nat} {e : TypeId} {size n : Nat} {v : Value} {xs : List Value} (h : w.ownsRow B e size v n xs) {g : Nat} (hg : v.ownBlock = some g) : ∃ cs, w.heap[g]? = some (.cells cs e (0, 0)) := by
  rcases h.2 with ⟨rfl, _⟩ | ⟨g', cap, cur, rfl, hb, hgg, _⟩
  · cases hg
  · obtain rfl : g' = g := Option.some.inj hg
    exact ⟨_, hgg⟩

/-- All's memory while it ranges. -/
structure AllI (w : World) (K : FK) (most : Int) (pre : List (Value × List Int)) (W : World) : Prop where
  low : Below w.heap.size w W
  b1 : Blk W w.heap.size 3 #[.int .i64 most]
  b3 : Blk W (w.heap.size + 1 + 1) 26 #[.int .i64 0]
  cnt : (pre.length : Int) ≤ most
  big : K.base ≤ W.heap.size
  row : ∃ vx, Blk W (w.heap.size + 1) 22 #[vx] ∧ OwnP W K.base vx pre ∧ (∀ p ∈ pre, NewB K.base p.1 ∧ Apart p.1 (nowB K W)) ∧ ∀ g, vx.ownBlock = some g → nowB K W ≠ some g
theorem AllI.move {w : World} {K : FK} {most : Int} {pre : List (Value × List Int)} {W W' : World} (h : AllI w K most pre W) (ho : W'.os = W.os) (ht : W'.tape = W.tape) (hu : W'.output = W.output) (hs : W.heap.size ≤ W'.heap.size) (hlow : ∀ k, k < w.heap.size + 3 → W'.heap[k]? = W.heap[k]?)
    (hrow : ∀ k o, K.base ≤ k → W.heap[k]? = some o → o.isCells = true → some k ≠ nowB K W → W'.heap[k]? = some o) (hnow : nowB K W' = nowB K W ∨ ∃ k, W.heap.size ≤ k ∧ nowB K W' = some k) : AllI w K most pre W' := by
  obtain ⟨vx, r1, r2, r3, r4⟩ := h.row
  have hap : ∀ k, k < W.heap.size → nowB K W ≠ some k → nowB K W' ≠ some k := fun k hk hne e => by
    rcases hnow with hn | ⟨j, hj, hn⟩
    · exact hne (hn.symm.trans e)
    · rw [hn] at e; injection e with e; omega
  have hel : ∀ p ∈ pre, SI W' p.1 p.2 ∧ Apart p.1 (nowB K W') := fun p hp => by
    refine ⟨(r2.2 p hp).1.block hs fun a n c e hn => ?_, fun a n c e hn e' => hap a.block ((r2.2 p hp).1.block_lt e hn) (fun e2 => (r3 p hp).2 a n c e hn e2.symm) e'.symm⟩
    obtain ⟨o, hoo, hc⟩ := (r2.2 p hp).1.obj e hn
    rw [hrow _ o ((r3 p hp).1 a n c e hn) hoo hc ((r3 p hp).2 a n c e hn), hoo]
  refine ⟨⟨ho.trans h.low.os, ht.trans h.low.tape, hu.trans h.low.output, Nat.le_trans h.low.size hs, fun k hk => (hlow k (by omega)).trans (h.low.block k hk)⟩, h.b1.block (hlow _ (by omega)), h.b3.block (hlow _ (by omega)), h.cnt, Nat.le_trans h.big hs,
    vx, r1.block (hlow _ (by omega)), ⟨own_block r2.1 fun g hg => ?_, fun p hp => ⟨(hel p hp).1, (r2.2 p hp).2⟩⟩, fun p hp => ⟨(r3 p hp).1, (hel p hp).2⟩, fun g hg => hap g (r2.1.lt g hg).2 (r4 g hg)⟩
  obtain ⟨cs, hcs⟩ := own_obj r2.1 hg
  rw [hrow g _ (r2.1.lt g hg).1 hcs rfl (fun e => r4 g hg e.symm), hcs]
theorem AllI.it {w : World} {K : FK} {most : Int} (hb : w.heap.size + 3 ≤ K.base0) : JIt K (AllI w K most) := by
  intro s A B now fr h hF hI
  refine h.move hI.os hI.tape hI.output hI.size (fun k hk => hI.same k ?_ (.inl (by omega)) fun e => ?_) (fun k o hk ho hc hne => (hI.same k (Array.getElem?_eq_some_iff.1 ho).1 (.inr hk) hne).trans ho) hI.now
  · have := hF.1.rng; omega
  · obtain ⟨nv, hnv, _, hr⟩ := hF.2.nowB
    have h1 := (hr.lt k (hnv.symm.trans e.symm)).1
    have := hF.1.rng; omega
theorem nowB_eq {K : FK} {W W' : World} (h : W'.heap[K.a]? = W.heap[K.a]?) : nowB K W' = nowB K W := by unfold nowB; rw [World.cell?_of_block (w := W) (a := ⟨K.a, 4, none⟩) h]
theorem AllI.own {w : World} {K : FK} {most : Int} {B : Nat} (hb : w.heap.size + 3 ≤ K.base0) (ha : K.a < K.base) (hB : K.base ≤ B) (h01 : K.base0 ≤ K.base) : OwnFrom B (AllI w K most) := by
  intro s W W' row h hg hr
  have hne : ∀ k, k < K.base → some k ≠ row := fun k hk e => by have := (hr k e.symm).1; omega
  have hbs := h.big
  refine h.move hg.os hg.tape hg.output hg.size (fun k hk => hg.block k (by omega) (hne k (by omega))) (fun k o hk ho hc _ => (hg.block k (Array.getElem?_eq_some_iff.1 ho).1 fun e => ?_).trans ho) (.inl (nowB_eq (hg.block _ (by omega) (hne _ ha))))
  obtain ⟨_, o', ho', hc'⟩ := hr k e.symm
  rw [ho] at ho'; injection ho' with ho'; subst ho'; rw [hc] at hc'; cases hc'
end Go.Proofs.YtbmdfnifbimfmaaGreatDoor
