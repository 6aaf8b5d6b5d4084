/- slices.Insert at integers. -/
import Derived.Test.YtbmdfnifbimfmaaGreatDoorC4
import Derived.Test.YtbmdfnifbimfmaaGreatDoorF4
namespace Go.Proofs.YtbmdfnifbimfmaaGreatDoor
open Go.RowKit Go.Shelf

def insAt {α : Type} (l : List α) (k : Nat) (x : α) : List α := l.take k ++ x :: l.drop k
theorem insAt_end {α : Type} (l : List α) (x : α) : insAt l l.length x = l ++ [x] := by simp [insAt]
theorem insAt_map {α β : Type} (f : α → β) (l : List α) (k : Nat) (x : α) : (insAt l k x).map f = insAt (l.map f) k (f x) := by simp [insAt]
theorem insAt_len {α : Type} (l : List α) (k : Nat) (x : α) (hk : k ≤ l.length) : (insAt l k x).length = l.length + 1 := by simp [insAt]; omega
theorem insAt_get {α : Type} {l : List α} {k : Nat} {x : α} (hk : k ≤ l.length) {j : Nat} {u : α} (h : (insAt l k x)[j]? = some u) : (j < k ∧ l[j]? = some u) ∨ (j = k ∧ u = x) ∨ (k < j ∧ (l.drop k)[j - (k + 1)]? = some u) := by
  unfold insAt at h
  rcases Nat.lt_trichotomy j k with hj | hj | hj
  · rw [List.getElem?_append_left (by rw [List.length_take]; omega), List.getElem?_take, if_pos hj] at h
    exact .inl ⟨hj, h⟩
  · rw [List.getElem?_append_right (by rw [List.length_take]; omega), List.length_take] at h
    have : j - min k l.length = 0 := by omega
    rw [this] at h
    simp at h
    exact .inr (.inl ⟨hj, h.symm⟩)
  · rw [List.getElem?_append_right (by rw [List.length_take]; omega), List.length_take] at h
    have : j - min k l.length = (j - (k + 1)) + 1 := by omega
    rw [this, List.getElem?_cons_succ] at h
    exact .inr (.inr ⟨hj, h⟩)

theorem own_of_cells {w : World} {base g : Nat} {e : TypeId} {cur : Array Value} {n cap : Nat} {xs : List Value} (hg : w.heap[g]? = some (.cells cur e (0, 0))) (hb : base ≤ g) (hn : n ≤ cap) (hm : cap ≤ maxLen) (hs : cur.size = cap) (hl : xs.length = n)
    (hc : ∀ j u, xs[j]? = some u → w.cell? ⟨g, j, none⟩ = some u) : w.ownsRow base e 1 (.slice (some ⟨g, 0, none⟩) n cap) n xs := by
  refine ⟨by omega, .inr ⟨g, cap, cur, rfl, hb, hg, hn, hm, by omega, ?_⟩⟩
  apply List.ext_getElem?
  intro j
  rw [List.getElem?_take]
  by_cases hj : j < n
  · rw [if_pos (by omega)]
    obtain ⟨u, hu⟩ := get_some (l := xs) (k := j) (by omega)
    have := hc j u hu
    rw [cell_of_row w g j cur e (0, 0) hg] at this
    rw [hu, Array.getElem?_toList, this]
  · rw [if_neg (by omega), List.getElem?_eq_none (by omega)]
theorem Blk.sets {g : Nat} {t : TypeId} : ∀ (vs : List Value) (o : Nat) {w : World} {cs : Array Value}, Blk w g t cs → ∃ cs', Blk (w.setCells g o vs) g t cs' ∧ cs'.size = cs.size
  | [], _, _, cs, h => ⟨cs, h, rfl⟩
  | v :: vs, o, w, cs, h => by
    obtain ⟨cs', h1, h2⟩ := Blk.sets vs (o + 1) (h.set_ o v)
    exact ⟨cs', h1, by rw [h2]; simp⟩
theorem grown_sets {g : Nat} : ∀ (vs : List Value) (o : Nat) {w w' : World}, w.grownBy w' (some g) → w.grownBy (w'.setCells g o vs) (some g)
  | [], _, _, _, h => h
  | v :: vs, o, w, w', h => grown_sets vs (o + 1) ⟨h.os, h.tape, h.output, by rw [size_set]; exact h.size, fun k hk hne => (heap_set_ne w' _ v (fun e => hne (by rw [e]))).trans (h.block k hk hne)⟩
theorem grown_none {w w' : World} {o : Option Nat} (h : w.grownBy w' none) : w.grownBy w' o := ⟨h.os, h.tape, h.output, h.size, fun k hk _ => h.block k hk (by simp)⟩
theorem grown_sets_new {g : Nat} {w : World} (hg : w.heap.size ≤ g) : ∀ (vs : List Value) (o : Nat) {w' : World}, w.grownBy w' none → w.grownBy (w'.setCells g o vs) none
  | [], _, _, h => h
  | v :: vs, o, w', h => grown_sets_new hg vs (o + 1) ⟨h.os, h.tape, h.output, by rw [size_set]; exact h.size, fun k hk _ => (heap_set_ne w' _ v (fun e => by simp only at e; omega)).trans (h.block k hk (by simp))⟩

/-- The call puts x at place k of the row v. -/
def InsPost (e3 : TypeId) (w : World) (base : Nat) (v : Value) (xs : List Value) (e : Ending) (w' : World) : Prop := ∃ v', e = .returned v' ∧ w'.ownsRow base e3 1 v' xs.length xs ∧ w.grownBy w' v.ownBlock

theorem size_zeroI (n : Nat) : (Builtin.zeroCells (Value.int .i64 0).cells n).size = n := by
  have : (Value.int .i64 0).cells.size = 1 := rfl
  simp [Builtin.zeroCells, this]

theorem own_alloc_row (w : World) (base : Nat) (e : TypeId) (xs : List Value) (n G : Nat) (Z : Array Value) (hn : xs.length = n) (hG : n ≤ G) (hm : G ≤ maxLen) (hZ : Z.size = G - n) (hb : base ≤ w.heap.size) :
    (w.alloc (.cells (xs.toArray ++ Z) e)).ownsRow base e 1 (.slice (some ⟨w.heap.size, 0, none⟩) n G) n xs := by
  refine own_of_cells (heap_alloc_new w _) hb hG hm (by simp; omega) hn (fun j u hj => ?_)
  have hjl := (List.getElem?_eq_some_iff.1 hj).1
  rw [cell_alloc_new, Array.getElem?_append_left (by simpa using hjl)]
  simpa using hj
theorem grown_drew {w w' : World} {r : Option Nat} (h : w.grownBy w' r) : w.grownBy w'.drew r := ⟨h.os, h.tape, h.output, h.size, h.block⟩
theorem grown_alloc_drew (w : World) (o : Obj) : w.grownBy (w.alloc o).drew none := ⟨rfl, rfl, rfl, by simp, fun k hk _ => Below.heap_alloc w o k hk⟩
theorem grown_drew_alloc (w : World) (o : Obj) (r : Option Nat) : w.grownBy (w.drew.alloc o) r := ⟨rfl, rfl, rfl, by simp, fun k hk _ => Below.heap_alloc w.drew o k hk⟩

set_option maxHeartbeats 1000000 in
theorem insI_any (base : Nat) (v : Value) (l : List Int) (k : Nat) (x : Int) (vb : Nat) (w : World) (h : w.ownsRow base 3 1 v l.length (l.map iV)) (hk : k ≤ l.length) (hl : l.length ≤ 1000000) (hx : Blk w vb 3 #[iV x]) (hne : v.ownBlock ≠ some vb) (hbase : base ≤ w.heap.size) :
    Calls Tryz.prog 67 #[v, .int .i64 k, .slice (some ⟨vb, 0, none⟩) 1 1] w (InsPost 3 w base v ((insAt l k x).map iV)) := by
  have hlen : ((insAt l k x).map iV).length = l.length + 1 := by rw [List.length_map, insAt_len l k x hk]
  have hvs : ∀ (j : Nat) (u : Value), [iV x][j]? = some u → w.cell? ⟨vb, 0 + j, none⟩ = some u := fun j u hj => by
    rw [Nat.zero_add, hx.cell j]
    simpa using hj
  have hone : ∀ u ∈ [iV x], u.oneCell' = true := fun u hu => by rw [List.mem_singleton.1 hu]; rfl
  have honl : ∀ u ∈ l.map iV, u.oneCell' = true := fun u hu => by obtain ⟨y, _, rfl⟩ := List.mem_map.1 hu; rfl
  have hgm : ∀ (m c : Nat), m ≤ 1000001 → m ≤ grownCap w m c 3 ∧ grownCap w m c 3 ≤ maxLen := fun m c hm => ⟨grownCap_ge _ _ _ _, grownCap_le_maxLen _ _ _ _ (by simp only [maxLen]; omega)⟩
  rcases h.2 with ⟨rfl, h0⟩ | ⟨g, cap, cur, hv, hb, hg, hn, hm, hs, ht⟩
  · have hl0 : l = [] := List.eq_nil_of_length_eq_zero h0
    subst hl0
    obtain rfl : k = 0 := by simpa using hk
    refine (Any2.slices_Insert_int_end_grow Tryz.laysInsertS none 0 0 vb 0 1 1 [] [iV x] w (by omega) (by omega) (by omega) (by omega) rfl rfl (fun _ => rfl) (fun a e => by cases e) hvs hone).mono ?_
    rintro e w' ⟨rfl, rfl⟩
    have hgc := hgm (0 + 1) 0 (by omega)
    exact ⟨_, rfl, own_alloc_row w.drew base 3 [iV x] 1 _ _ rfl hgc.1 hgc.2 (size_zeroI _) hbase, grown_drew_alloc _ _ _⟩
  · subst hv
    have hblk : Blk w g 3 cur := hg
    have hcs : ∀ (j : Nat) (u : Value), (l.map iV)[j]? = some u → w.cell? ⟨g, 0 + j, none⟩ = some u := fun j u hj => by
      have := h.cells (g := g) rfl j u hj
      rwa [add_lit] at this
    have hgl : g < w.heap.size := hblk.lt
    have hgv : g ≠ vb := fun e => hne (by rw [e]; rfl)
    rcases Nat.lt_or_ge k l.length with hkl | hkl
    · rcases Nat.lt_or_ge cap (l.length + 1) with hc | hc
      · refine (Any2.slices_Insert_int_grow Tryz.laysInsertS g 0 l.length cap k vb 0 1 1 (l.map iV) [iV x] w hkl (by omega) hn hc (by omega) (by simp) rfl hcs hvs honl hone).mono ?_
        rintro e w' ⟨rfl, rfl⟩
        have hgc := hgm (l.length + 1) cap (by omega)
        refine ⟨_, rfl, ?_, grown_none ?_⟩
        · rw [hlen]
          obtain ⟨A, hA⟩ : ∃ A : Array Value, ((l.map iV).take k).toArray ++ Builtin.zeroCells (Value.int .i64 0).cells (l.length + 1 - k) ++ Builtin.zeroCells (Value.int .i64 0).cells (grownCap w (l.length + 1) cap 3 - (l.length + 1)) = A := ⟨_, rfl⟩
          have hAs : A.size = grownCap w (l.length + 1) cap 3 := by
            rw [← hA, Array.size_append, Array.size_append, size_zeroI, size_zeroI]
            simp; omega
          have hAt : ∀ j u, j < k → (l.map iV)[j]? = some u → A[j]? = some u := fun j u hj hu => by
            have hlt : j < (((l.map iV).take k).toArray).size := by rw [List.size_toArray, List.length_take, List.length_map]; omega
            rw [← hA, Array.append_assoc, Array.getElem?_append_left hlt, List.getElem?_toArray, List.getElem?_take, if_pos hj]; exact hu
          show World.ownsRow ((((w.alloc (.cells (((l.map iV).take k).toArray ++ Builtin.zeroCells (Value.int .i64 0).cells (l.length + 1 - k) ++ Builtin.zeroCells (Value.int .i64 0).cells (grownCap w (l.length + 1) cap 3 - (l.length + 1))) 3)).drew.setCells w.heap.size k [iV x]).drew.setCells w.heap.size (k + 1) ((l.map iV).drop k))) base 3 1 _ _ _
          rw [hA]
          have b1 : Blk (w.alloc (.cells A 3)).drew w.heap.size 3 A := Blk.new w 3 A
          obtain ⟨A1, b2, s2⟩ := b1.sets [iV x] k
          obtain ⟨A2, b3, s3⟩ := (show Blk ((w.alloc (.cells A 3)).drew.setCells w.heap.size k [iV x]).drew w.heap.size 3 A1 from b2).sets ((l.map iV).drop k) (k + 1)
          refine own_of_cells b3 hbase hgc.1 hgc.2 (by rw [s3, s2, hAs]; rfl) hlen (fun j u hj => ?_)
          rw [insAt_map] at hj
          rcases insAt_get (by simpa using hk) hj with ⟨hjk, hu⟩ | ⟨rfl, rfl⟩ | ⟨hjk, hu⟩
          · rw [World.cell?_setCells_out _ _ _ _ _ (fun _ _ => .inl (by simp only; omega))]
            show World.cell? ((w.alloc (.cells A 3)).drew.setCells w.heap.size k [iV x]) _ = _
            rw [World.cell?_setCells_out _ _ _ _ _ (fun _ _ => .inl (by simp only; omega))]
            exact (b1.cell j).trans (hAt j u hjk hu)
          · rw [World.cell?_setCells_out _ _ _ _ _ (fun _ _ => .inl (by simp only; omega))]
            have := (b1.set_ j (iV x)).cell j
            refine this.trans ?_
            rw [Array.getElem?_setIfInBounds_self_of_lt (by omega)]
          · have hjl := (List.getElem?_eq_some_iff.1 hu).1
            have := World.cell?_setCells_in w.heap.size ((l.map iV).drop k) (k + 1) ((w.alloc (.cells A 3)).drew.setCells w.heap.size k [iV x]).drew (fun i hi => by
              show (World.cell? ((w.alloc (.cells A 3)).drew.setCells w.heap.size k [iV x]) _).isSome = true
              rw [b2.cell, Array.getElem?_eq_getElem (by rw [s2, hAs]; simp at hi; omega)]; rfl) (j - (k + 1)) hjl
            have hjj : k + 1 + (j - (k + 1)) = j := by omega
            rw [hjj] at this
            rw [this]
            exact (List.getElem?_eq_some_iff.1 hu).2 ▸ rfl
        · exact grown_sets_new (Nat.le_refl _) _ _ (grown_drew (grown_sets_new (Nat.le_refl _) _ _ (grown_alloc_drew w _)))
      · refine (Any2.slices_Insert_int_shift Tryz.laysInsertS g 0 l.length cap k vb 0 1 1 (l.map iV) [iV x] w hkl (by omega) hc hm (Ne.symm hgv) (by simp) rfl hcs (fun j hj => ?_) (fun j hj => hblk.frozen _) hvs honl hone 3 3 1 cap ?_ ?_ (by omega) (hx.frozen _) (hx.frozen _)).mono ?_
        · rw [hblk.cell, Array.getElem?_eq_getElem (by omega)]; rfl
        · unfold World.shape?; rw [show w.heap[vb]? = _ from hx]; rfl
        · unfold World.shape?; rw [hg]; simp; omega
        rintro e w' ⟨rfl, rfl⟩
        refine ⟨_, rfl, ?_, grown_sets _ _ (grown_sets _ _ ⟨rfl, rfl, rfl, Nat.le_refl _, fun _ _ _ => rfl⟩)⟩
        rw [hlen]
        have b1 : Blk w.drew g 3 cur := hblk
        obtain ⟨A1, b2, s2⟩ := b1.sets ((l.map iV).drop k) (0 + (k + 1))
        obtain ⟨A2, b3, s3⟩ := b2.sets [iV x] (0 + k)
        refine own_of_cells b3 hb hc hm (by omega) hlen (fun j u hj => ?_)
        rw [insAt_map] at hj
        rcases insAt_get (by simpa using hk) hj with ⟨hjk, hu⟩ | ⟨rfl, rfl⟩ | ⟨hjk, hu⟩
        · rw [World.cell?_setCells_out _ _ _ _ _ (fun _ _ => .inl (by simp only; omega)), World.cell?_setCells_out _ _ _ _ _ (fun _ _ => .inl (by simp only; omega))]
          have := hcs j u hu
          rw [Nat.zero_add] at this
          exact this
        · have := (b2.set_ (0 + j) (iV x)).cell j
          refine this.trans ?_
          rw [Nat.zero_add, Array.getElem?_setIfInBounds_self_of_lt (by omega)]
        · have hjl := (List.getElem?_eq_some_iff.1 hu).1
          rw [World.cell?_setCells_out _ _ _ _ _ (fun _ _ => .inr (by simp; omega))]
          have := World.cell?_setCells_in g ((l.map iV).drop k) (0 + (k + 1)) w.drew (fun i hi => by
            rw [b1.cell, Array.getElem?_eq_getElem (by simp at hi; omega)]; rfl) (j - (k + 1)) hjl
          have hjj : 0 + (k + 1) + (j - (k + 1)) = j := by omega
          rw [hjj] at this
          rw [this]
          exact (List.getElem?_eq_some_iff.1 hu).2 ▸ rfl
    · obtain rfl : k = l.length := by omega
      rcases Nat.lt_or_ge cap (l.length + 1) with hc | hc
      · refine (Any2.slices_Insert_int_end_grow Tryz.laysInsertS (some ⟨g, 0, none⟩) l.length cap vb 0 1 1 (l.map iV) [iV x] w (by omega) hn hc (by omega) (by simp) rfl (fun e => by cases e) (fun a e j u hj => by cases e; rw [add_lit]; exact hcs j u hj) hvs hone).mono ?_
        rintro e w' ⟨rfl, rfl⟩
        have hgc := hgm (l.length + 1) cap (by omega)
        refine ⟨_, rfl, ?_, grown_drew_alloc _ _ _⟩
        rw [hlen, insAt_end, List.map_append]
        exact own_alloc_row w.drew base 3 (l.map iV ++ [iV x]) (l.length + 1) _ _ (by simp) hgc.1 hgc.2 (size_zeroI _) hbase
      · refine (Any2.slices_Insert_int_end_room Tryz.laysInsertS g 0 l.length cap vb 0 1 1 [iV x] w (by omega) hc hm rfl (fun j hj => ?_) (fun j hj => hblk.frozen _) hvs hone).mono ?_
        · rw [hblk.cell, Array.getElem?_eq_getElem (by omega)]; rfl
        · rintro e w' ⟨rfl, rfl⟩
          refine ⟨_, rfl, ?_, grown_sets _ _ (World.grownBy.refl _ _)⟩
          rw [hlen, insAt_end, List.map_append]
          obtain ⟨A1, b2, s2⟩ := hblk.sets [iV x] (0 + l.length)
          refine own_of_cells b2 hb hc hm (by omega) (by simp) (fun j u hj => ?_)
          rcases Nat.lt_or_ge j l.length with hjl | hjl
          · rw [List.getElem?_append_left (by simpa using hjl)] at hj
            rw [World.cell?_setCells_out _ _ _ _ _ (fun _ _ => .inl (by simp only; omega))]
            have := hcs j u hj
            rwa [Nat.zero_add] at this
          · have hj2 := (List.getElem?_eq_some_iff.1 hj).1
            simp at hj2
            obtain rfl : j = l.length := by omega
            rw [List.getElem?_append_right (by simp)] at hj
            simp at hj
            have := (hblk.set_ (0 + l.length) (iV x)).cell l.length
            refine this.trans ?_
            rw [Nat.zero_add, Array.getElem?_setIfInBounds_self_of_lt (by omega), ← hj]
end Go.Proofs.YtbmdfnifbimfmaaGreatDoor
