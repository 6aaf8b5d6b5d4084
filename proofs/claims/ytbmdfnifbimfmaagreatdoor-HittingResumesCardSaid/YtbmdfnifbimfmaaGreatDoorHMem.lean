/- Words for memory: a slice that reads as a list, a list of lists; a block known whole; how they are kept. -/
import Derived.WalkKit
import Derived.Below
import Derived.Laws.OwnMore
import Derived.Deep.AppendLies
import Derived.Deep.Draws
import Derived.Lib.Hide
import Derived.BigQuiet
import Derived.Deep.QuietTactic
import Derived.Maps.AppendAt
import Derived.RegionTactic
import Derived.OwnWalk
namespace Go.Proofs.YtbmdfnifbimfmaaGreatDoor
open Go.RowKit

theorem ret_int {k : IntKind} {a b : Int} (h : a = b) : Ending.returned (.int k a) = .returned (.int k b) := by rw [h]
theorem ret_bool {a b : Bool} (h : a = b) : Ending.returned (.bool a) = .returned (.bool b) := by rw [h]

theorem block_of_add (a : Addr) (n : Nat) : (a.add n).block = a.block := by unfold Addr.add; split <;> rfl
theorem add_of_add (a : Addr) (i j : Nat) : (a.add i).add j = a.add (i + j) := by
  unfold Addr.add
  by_cases hi : i = 0 <;> by_cases hj : j = 0 <;> simp [hi, hj, Nat.add_assoc]
theorem add_lit (b o i : Nat) : (⟨b, o, none⟩ : Addr).add i = ⟨b, o + i, none⟩ := by
  unfold Addr.add; split <;> simp_all

theorem bAl {w W : World} (h : Below w.heap.size w W) (o : Obj) : Below w.heap.size w (W.alloc o) := h.alloc h.size o
theorem bAfter {w W W' : World} (h : Below w.heap.size w W) (k : Below W.heap.size W W') : Below w.heap.size w W' := h.trans (k.mono h.size)
theorem bAft {B : Nat} {w W W' : World} (k : Below W.heap.size W W') (h : Below B w W) (hB : B ≤ w.heap.size) : Below B w W' := h.trans (k.mono (Nat.le_trans hB h.size))
theorem bAftH {B : Nat} {w W0 W W' : World} (k : Below W.heap.size W W') (h : Below B w W0) (hB : B ≤ W0.heap.size) (e : W.heap = W0.heap) (ho : W.os = W0.os) (ht : W.tape = W0.tape) (hu : W.output = W0.output) : Below B w W' :=
  h.trans ⟨k.os.trans ho, k.tape.trans ht, k.output.trans hu, by rw [← e]; exact k.size, fun i hi => by rw [k.block i (by rw [e]; omega), e]⟩
theorem bSt {w W : World} (h : Below w.heap.size w W) {p : Addr} (hp : w.heap.size ≤ p.block) (u : Value) : Below w.heap.size w (W.setCell p u) := h.setCell hp u
theorem bDrN {B : Nat} {a w : World} (h : Below B a w) (n : Nat) : Below B a (w.drewN n) := ⟨h.os, h.tape, h.output, h.size, h.block⟩
theorem bcell {W w1 : World} (hb : Below W.heap.size W w1) : (∀ b o, b < W.heap.size → w1.cell? ⟨b, o, none⟩ = W.cell? ⟨b, o, none⟩) ∧ (∀ b o, b < W.heap.size → w1.frozen? ⟨b, o, none⟩ = W.frozen? ⟨b, o, none⟩) :=
  ⟨fun b o h => hb.cell (p := ⟨b, o, none⟩) h, fun b o h => hb.frozen (p := ⟨b, o, none⟩) h⟩
theorem cell_alloc_new (w : World) (cs : Array Value) (t : TypeId) (o : Nat) : (w.alloc (.cells cs t)).cell? ⟨w.heap.size, o, none⟩ = cs[o]? := by
  have := heap_alloc_new w (.cells cs t)
  simp only [World.cell?, this]
  simp

def Blk (w : World) (g : Nat) (t : TypeId) (cs : Array Value) : Prop := w.heap[g]? = some (.cells cs t (0, 0))
section
variable {w w' : World} {g : Nat} {t : TypeId} {cs : Array Value}
theorem Blk.lt (h : Blk w g t cs) : g < w.heap.size := by
  rcases Nat.lt_or_ge g w.heap.size with hlt | hge
  · exact hlt
  · unfold Blk at h; rw [Array.getElem?_eq_none hge] at h; cases h
theorem Blk.cell (h : Blk w g t cs) (i : Nat) : w.cell? ⟨g, i, none⟩ = cs[i]? := cell_of_row w g i cs t (0, 0) h
theorem Blk.frozen (h : Blk w g t cs) (i : Nat) : w.frozen? ⟨g, i, none⟩ = false := by
  unfold Blk at h
  simp [World.frozen?, h]
theorem Blk.new (w : World) (t : TypeId) (cs : Array Value) : Blk (w.alloc (.cells cs t)) w.heap.size t cs := heap_alloc_new w _
theorem Blk.newAt (w : World) (t : TypeId) (cs : Array Value) {n : Nat} (h : n = w.heap.size) : Blk (w.alloc (.cells cs t)) n t cs := by subst h; exact heap_alloc_new w _
theorem Blk.drew (h : Blk w g t cs) : Blk w.drew g t cs := h
theorem Blk.drewN (h : Blk w g t cs) (n : Nat) : Blk (w.drewN n) g t cs := h
theorem Blk.alloc (h : Blk w g t cs) (o : Obj) : Blk (w.alloc o) g t cs := (Below.heap_alloc w o g h.lt).trans h
theorem Blk.set_ (h : Blk w g t cs) (i : Nat) (u : Value) : Blk (w.setCell ⟨g, i, none⟩ u) g t (cs.setIfInBounds i u) := by
  unfold Blk at h ⊢
  simp [World.setCell, Array.getElem?_modify, h]
theorem Blk.far (h : Blk w g t cs) {p : Addr} (hp : g ≠ p.block) (u : Value) : Blk (w.setCell p u) g t cs := (Below.heap_setCell w p u g hp).trans h
theorem Blk.below (h : Blk w g t cs) (hb : Below w.heap.size w w') : Blk w' g t cs := (hb.block g h.lt).trans h
theorem bk (hb : Below w.heap.size w w') (h : Blk w g t cs) : Blk w' g t cs := (hb.block g h.lt).trans h
theorem Blk.grown {row : Option Nat} (h : Blk w g t cs) (hb : w.grownBy w' row) (hg : some g ≠ row) : Blk w' g t cs := (hb.block g h.lt hg).trans h
end

/-- The cells of the row: element i, cell j lies at off + i * k + j. -/
def CellsAt {α : Type} (w : World) (enc : α → List Value) (k b off : Nat) (l : List α) : Prop :=
  ∀ i x, l[i]? = some x → ∀ j u, (enc x)[j]? = some u → w.cell? ⟨b, off + i * k + j, none⟩ = some u

/-- The slice value v reads as the list l in w, and lies below block B. -/
def Sl {α : Type} (w : World) (B : Nat) (enc : α → List Value) (k : Nat) (v : Value) (l : List α) : Prop :=
  ∃ A c, v = .slice A l.length c ∧ l.length ≤ c ∧ c ≤ maxLen ∧ (0 < l.length → ∃ b off, A = some ⟨b, off, none⟩ ∧ b < B ∧ CellsAt w enc k b off l)

section
variable {α : Type} {w w' : World} {B B' : Nat} {enc : α → List Value} {k : Nat} {v : Value} {l : List α}

theorem CellsAt.keep {b off : Nat} (h : CellsAt w enc k b off l) (hk : ∀ o, w'.cell? ⟨b, o, none⟩ = w.cell? ⟨b, o, none⟩) : CellsAt w' enc k b off l :=
  fun i x hi j u hj => (hk _).trans (h i x hi j u hj)
theorem Sl.keep (h : Sl w B enc k v l) (hk : ∀ p : Addr, p.block < B → w'.cell? p = w.cell? p) : Sl w' B enc k v l := by
  obtain ⟨A, c, hv, hc, hm, hA⟩ := h
  refine ⟨A, c, hv, hc, hm, fun hl => ?_⟩
  obtain ⟨b, off, e, hb, hcell⟩ := hA hl
  exact ⟨b, off, e, hb, hcell.keep fun o => hk _ hb⟩
theorem Sl.more (h : Sl w B enc k v l) (hB : B ≤ B') : Sl w B' enc k v l := by
  obtain ⟨A, c, hv, hc, hm, hA⟩ := h
  refine ⟨A, c, hv, hc, hm, fun hl => ?_⟩
  obtain ⟨b, off, e, hb, hcell⟩ := hA hl
  exact ⟨b, off, e, by omega, hcell⟩
theorem Sl.below (h : Sl w B enc k v l) (hb : Below B w w') : Sl w' B enc k v l := h.keep fun _ hp => hb.cell hp
theorem Sl.nil (w : World) (B : Nat) (enc : α → List Value) (k : Nat) : Sl w B enc k (.slice none 0 0) [] := ⟨none, 0, rfl, Nat.le_refl _, by simp [maxLen], fun h => by simp at h⟩
theorem Sl.len_le (h : Sl w B enc k v l) : l.length ≤ maxLen := by obtain ⟨A, c, _, h1, h2, _⟩ := h; omega
end

/-- A world in which all that lay in w lies as it lay. -/
def Later (w : World) : Type := { W : World // Below w.heap.size w W }
def Later.at {w : World} (s : Later w) : World := s.1
theorem Later.below {w : World} (s : Later w) : Below w.heap.size w s.at := s.2

instance Later.nonempty (w : World) : Nonempty (Later w) := ⟨⟨w, Below.refl _ _⟩⟩

theorem wp_region_later {P : Program} {id : Nat} {Q : Exit → Act → World → Prop} {a : Act} {w : World} {l : List Oper} (hm : P.follows .mixedOrders = true) (hB : Region.lexB .any l.toArray = true)
    (h : wpQuiet P l.toArray (fun w' => ∃ s : Later w, w' = s.at) (fun a' => ∀ w', (∃ s : Later w, w' = s.at) → Q .normal a' w') l a) : (Code.region id l.toArray true).wp P Q a w :=
  wp_region_quiet (C := fun w' => ∃ s : Later w, w' = s.at) hm hB ⟨⟨_, (Below.refl _ w).drew⟩, rfl⟩ (by simpa using h)

theorem later_of {P : Program} {f : FuncId} {args : Array Value} {w : World} {s : Later w} {v : Value}
    (h : Calls P f args s.at fun e w' => e = .returned v ∧ Below s.at.heap.size s.at w') : Calls P f args s.at fun e w'' => e = .returned v ∧ ∃ s' : Later w, w'' = s'.at :=
  h.mono fun _ w' ⟨he, hb⟩ => ⟨he, ⟨w', bAfter s.2 hb⟩, rfl⟩
theorem later_cell {w : World} {g : Nat} {t : TypeId} {cs : Array Value} (h : Blk w g t cs) (i : Nat) {u : Value} (hi : cs[i]? = some u) : ∀ s : Later w, s.at.cell? ⟨g, i, none⟩ = some u :=
  fun s => ((bk s.2 h).cell i).trans hi
theorem later_old {w : World} {p : Addr} {u : Value} (h : w.cell? p = some u) : ∀ s : Later w, s.at.cell? p = some u :=
  fun s => (s.below.cell (World.block_lt_of_cell? w p h)).trans h

section
variable {α : Type}

theorem flatMap_len (enc : α → List Value) (k : Nat) (hk : ∀ x, (enc x).length = k) (l : List α) : (l.flatMap enc).length = l.length * k := by
  induction l with
  | nil => simp
  | cons x l ih => simp [List.flatMap_cons, hk, ih, Nat.succ_mul]; omega

theorem flatMap_get (enc : α → List Value) (k : Nat) (hk : ∀ x, (enc x).length = k) (l : List α) (i j : Nat) (x : α) (hi : l[i]? = some x) (hj : j < k) : (l.flatMap enc)[i * k + j]? = (enc x)[j]? := by
  induction l generalizing i with
  | nil => simp at hi
  | cons y l ih =>
    rw [List.flatMap_cons]
    cases i with
    | zero =>
      simp at hi; subst hi
      rw [List.getElem?_append_left (by rw [hk]; omega)]; simp
    | succ i =>
      rw [List.getElem?_append_right (by rw [hk, Nat.succ_mul]; omega), hk]
      have : (i + 1) * k + j - k = i * k + j := by rw [Nat.succ_mul]; omega
      rw [this]
      exact ih i (by simpa using hi)

end

section
variable {P : Program} (w : World)

theorem run_append_of_nil (base : Nat) (t ty e : TypeId) (i : TypeInfo) (size : Nat) (ht : P.underlying t = some (.slice e)) (hi : P.info? e = some i)
    (v : Value) (n : Nat) (xs : List Value) (hown : w.ownsRow base e size v n xs) (c : Nat) : (Builtin.append_ #[t, t] ty #[v, .slice none 0 c]).run P w = .ok v w := by
  rcases hown.2 with ⟨rfl, rfl⟩ | ⟨g, cap, cur, rfl, _, _, hnc, _⟩
  · simp [Builtin.append_, run_underlying ht, sizeOf, typeInfo, hi, Builtin.lenOf, Builtin.firstCells]
  · simp [Builtin.append_, run_underlying ht, sizeOf, typeInfo, hi, Builtin.lenOf, Builtin.firstCells, hnc, storeCells]

theorem run_append_sl {α : Type} (enc : α → List Value) (base : Nat) (t ty e : TypeId) (i : TypeInfo) (z : Value) (size bytes : Nat) (ht : P.underlying t = some (.slice e)) (hi : P.info? e = some i) (hz : i.zero = some z)
    (hsize : i.size = size) (hby : i.bytes = bytes) (hzs : z.cells.size = size) (hsz : 0 < size)
    (v : Value) (n : Nat) (xs : List Value) (hown : w.ownsRow base e size v n xs)
    (B : Nat) (u : Value) (l : List α) (hk : ∀ x, (enc x).length = size) (hr : Sl w B enc size u l) (h1 : ∀ x ∈ l, ∀ u ∈ enc x, u.oneCell' = true)
    (h63 : n + l.length ≤ maxLen) (hbytes : (n + l.length) * bytes ≤ 140737488355328) (hbase : base ≤ w.heap.size) :
    ∃ v' w', (Builtin.append_ #[t, t] ty #[v, u]).run P w = .ok v' w' ∧ w'.ownsRow base e size v' (n + l.length) (xs ++ l.flatMap enc) ∧ w.grownBy w' v.ownBlock ∧
      (v'.ownBlock = v.ownBlock ∨ v'.ownBlock = some w.heap.size) := by
  obtain ⟨A, c, rfl, hc, hm, hA⟩ := hr
  have hl : (l.flatMap enc).length = l.length * size := flatMap_len enc size hk l
  have hone : ∀ u ∈ l.flatMap enc, u.oneCell' = true := by
    intro u hu
    obtain ⟨x, hxl, hx⟩ := List.mem_flatMap.1 hu
    exact h1 x hxl u hx
  rcases A with _ | ad
  · have hm0 : l.length = 0 := by
      rcases Nat.eq_zero_or_pos l.length with h0 | h0
      · exact h0
      · obtain ⟨_, _, h, _⟩ := hA h0
        cases h
    have hln : l = [] := List.eq_nil_of_length_eq_zero hm0
    subst hln
    exact ⟨v, w, run_append_of_nil w base t ty e i size ht hi v n xs hown c, by simpa using hown, World.grownBy.refl w _, .inl rfl⟩
  · have hcells : ∀ j u, (l.flatMap enc)[j]? = some u → w.cell? (ad.add j) = some u := by
      intro j u hu
      have hj : j < l.length * size := by
        rcases Nat.lt_or_ge j (l.length * size) with h | h
        · exact h
        · rw [List.getElem?_eq_none (by omega)] at hu; cases hu
      have hpos : 0 < l.length := by
        rcases Nat.eq_zero_or_pos l.length with h0 | h0
        · rw [h0] at hj; simp at hj
        · exact h0
      obtain ⟨b, off, e', hb, hcell⟩ := hA hpos
      injection e' with e'
      subst e'
      have hd : j / size < l.length := (Nat.div_lt_iff_lt_mul hsz).2 hj
      have hmod : j % size < size := Nat.mod_lt _ hsz
      have hg := flatMap_get enc size hk l (j / size) (j % size) l[j / size] (by simp [hd]) hmod
      have hjj : j / size * size + j % size = j := by rw [Nat.mul_comm]; exact Nat.div_add_mod j size
      rw [hjj, hu] at hg
      have := hcell (j / size) l[j / size] (by simp [hd]) (j % size) u hg.symm
      rw [add_lit]
      rw [← this]
      congr 2
      omega
    obtain ⟨v', w', hrun, h2, h3, _, h5⟩ := run_append_own_at (P := P) w base t ty e i z size bytes ht hi hz hsize hby hzs hsz v n xs hown ad l.length c (l.flatMap enc) hl hcells hone h63 hbytes hbase
    exact ⟨v', w', hrun, h2, h3, h5⟩

theorem wp_append_sl {α : Type} (enc : α → List Value) {o : Oper} {a : Act} {K : Act → World → Prop} {Q : Exit → Act → World → Prop} (s x : Operand) (t : TypeId)
    (ho : o.op = .call { callee := .builtin .append, args := #[s, x], argTypes := #[t, t] })
    (base : Nat) (e : TypeId) (i : TypeInfo) (z : Value) (size bytes : Nat) (ht : P.underlying t = some (.slice e)) (hi : P.info? e = some i) (hz : i.zero = some z)
    (hsize : i.size = size) (hby : i.bytes = bytes) (hzs : z.cells.size = size) (hsz : 0 < size)
    (v : Value) (n : Nat) (xs : List Value) (hs : a.eval s = v) (hown : w.ownsRow base e size v n xs)
    (B : Nat) (u : Value) (l : List α) (hk : ∀ x, (enc x).length = size) (hx : a.eval x = u) (hr : Sl w B enc size u l) (h1 : ∀ x ∈ l, ∀ u ∈ enc x, u.oneCell' = true)
    (h63 : n + l.length ≤ maxLen) (hbytes : (n + l.length) * bytes ≤ 140737488355328) (hbase : base ≤ w.heap.size)
    (h : ∀ v' w', w'.ownsRow base e size v' (n + l.length) (xs ++ l.flatMap enc) → w.grownBy w' v.ownBlock → (v'.ownBlock = v.ownBlock ∨ v'.ownBlock = some w.heap.size) → K (a.put o.dst v') w') : o.wp P a w K Q := by
  obtain ⟨v', w', hrun, h2, h3, h4⟩ := run_append_sl (P := P) w enc base t o.type e i z size bytes ht hi hz hsize hby hzs hsz v n xs hown B u l hk hr h1 h63 hbytes hbase
  unfold Oper.wp execOp
  simp only [ho, resolve, invoke, builtin, Sem.run_bind, Sem.run_pure, Result.andThen_ok, List.map_toArray, List.map_cons, List.map_nil, hs, hx, hrun]
  exact h v' w' h2 h3 h4

theorem wpList_append_sl {α : Type} (enc : α → List Value) {ops : Array Oper} {rest : List Oper} {o : Oper} {a : Act} {Q : Exit → Act → World → Prop} (hgd : o.guard = none) (s x : Operand) (t : TypeId)
    (ho : o.op = .call { callee := .builtin .append, args := #[s, x], argTypes := #[t, t] })
    (base : Nat) (e : TypeId) (i : TypeInfo) (z : Value) (size bytes : Nat) (ht : P.underlying t = some (.slice e)) (hi : P.info? e = some i) (hz : i.zero = some z)
    (hsize : i.size = size) (hby : i.bytes = bytes) (hzs : z.cells.size = size) (hsz : 0 < size)
    (v : Value) (n : Nat) (xs : List Value) (hs : a.eval s = v) (hown : w.ownsRow base e size v n xs)
    (B : Nat) (u : Value) (l : List α) (hk : ∀ x, (enc x).length = size) (hx : a.eval x = u) (hr : Sl w B enc size u l) (h1 : ∀ x ∈ l, ∀ u ∈ enc x, u.oneCell' = true)
    (h63 : n + l.length ≤ maxLen) (hbytes : (n + l.length) * bytes ≤ 140737488355328) (hbase : base ≤ w.heap.size)
    (h : ∀ v' w', w'.ownsRow base e size v' (n + l.length) (xs ++ l.flatMap enc) → w.grownBy w' v.ownBlock → (v'.ownBlock = v.ownBlock ∨ v'.ownBlock = some w.heap.size) → wpList P ops Q rest (a.put o.dst v') w') : wpList P ops Q (o :: rest) a w :=
  wpList_plain hgd fun _ hK => wp_append_sl w enc s x t ho base e i z size bytes ht hi hz hsize hby hzs hsz v n xs hs hown B u l hk hx hr h1 h63 hbytes hbase fun v' w' h2 h3 h4 => hK _ _ (h v' w' h2 h3 h4)

theorem step_append_sl {α : Type} (enc : α → List Value) {ops : Array Oper} {o : Oper} {a : Act} {K : Act → World → Prop} {Q : Exit → Act → World → Prop} {E : Prop} (hgd : o.guard = none) (s x : Operand) (t : TypeId)
    (ho : o.op = .call { callee := .builtin .append, args := #[s, x], argTypes := #[t, t] })
    (base : Nat) (e : TypeId) (i : TypeInfo) (z : Value) (size bytes : Nat) (ht : P.underlying t = some (.slice e)) (hi : P.info? e = some i) (hz : i.zero = some z)
    (hsize : i.size = size) (hby : i.bytes = bytes) (hzs : z.cells.size = size) (hsz : 0 < size)
    (v : Value) (n : Nat) (xs : List Value) (hs : a.eval s = v) (hown : w.ownsRow base e size v n xs)
    (B : Nat) (u : Value) (l : List α) (hk : ∀ x, (enc x).length = size) (hx : a.eval x = u) (hr : Sl w B enc size u l) (h1 : ∀ x ∈ l, ∀ u ∈ enc x, u.oneCell' = true)
    (h63 : n + l.length ≤ maxLen) (hbytes : (n + l.length) * bytes ≤ 140737488355328) (hbase : base ≤ w.heap.size)
    (h : ∀ v' w', w'.ownsRow base e size v' (n + l.length) (xs ++ l.flatMap enc) → w.grownBy w' v.ownBlock → (v'.ownBlock = v.ownBlock ∨ v'.ownBlock = some w.heap.size) → K (a.put o.dst v') w') :
    if Region.wanted o (yielded ops a.tmps) = true then Oper.wp P o a w K Q else E := by
  have hw : Region.wanted o (yielded ops a.tmps) = true := by simp [Region.wanted, hgd]
  rw [if_pos hw]
  exact wp_append_sl w enc s x t ho base e i z size bytes ht hi hz hsize hby hzs hsz v n xs hs hown B u l hk hx hr h1 h63 hbytes hbase h
end

/-! ### One cell an element -/
section
variable {α : Type} {w w' : World} {B : Nat} {f : α → Value} {v : Value} {l : List α}
/-- One cell an element. -/
def enc1 (f : α → Value) (x : α) : List Value := [f x]
theorem enc1_len (f : α → Value) (x : α) : (enc1 f x).length = 1 := rfl
theorem flat1 (f : α → Value) : ∀ l : List α, l.flatMap (enc1 f) = l.map f
  | [] => rfl
  | x :: l => by rw [List.flatMap_cons, flat1 f l]; rfl
/-- The slice v reads as the list l, an element a cell. -/
def S1 (w : World) (f : α → Value) (v : Value) (l : List α) : Prop := Sl w w.heap.size (enc1 f) 1 v l
theorem S1.up (h : S1 w f v l) (hb : Below w.heap.size w w') : S1 w' f v l := (Sl.below h hb).more hb.size
theorem S1.al (h : S1 w f v l) (o : Obj) : S1 (w.alloc o) f v l := h.up ((Below.refl _ _).alloc (Nat.le_refl _) _)
theorem S1.drew (h : S1 w f v l) : S1 w.drew f v l := h
theorem S1.nil (w : World) (f : α → Value) : S1 w f (.slice none 0 0) [] := Sl.nil _ _ _ _
theorem S1.len_le (h : S1 w f v l) : l.length ≤ maxLen := Sl.len_le h
/-- What a walk uses: the slice's form, its bounds, its cells. -/
theorem S1.form (h : S1 w f v l) : ∃ A c, v = .slice A l.length c ∧ l.length ≤ c ∧ c ≤ maxLen ∧ (0 < l.length → ∃ b off, A = some ⟨b, off, none⟩ ∧ b < w.heap.size ∧ ∀ i x, l[i]? = some x → w.cell? ⟨b, off + i, none⟩ = some (f x)) := by
  obtain ⟨A, c, hv, hc, hm, hA⟩ := h
  refine ⟨A, c, hv, hc, hm, fun h0 => ?_⟩
  obtain ⟨b, off, e, hb, hcell⟩ := hA h0
  refine ⟨b, off, e, hb, fun i x hi => ?_⟩
  have := hcell i x hi 0 _ rfl
  simpa using this
theorem S1.mk {A : Option Addr} {c : Nat} (hc : l.length ≤ c) (hm : c ≤ maxLen) (hA : 0 < l.length → ∃ b off, A = some ⟨b, off, none⟩ ∧ b < w.heap.size ∧ ∀ i x, l[i]? = some x → w.cell? ⟨b, off + i, none⟩ = some (f x)) : S1 w f (.slice A l.length c) l := by
  refine ⟨A, c, rfl, hc, hm, fun h0 => ?_⟩
  obtain ⟨b, off, e, hb, hcell⟩ := hA h0
  refine ⟨b, off, e, hb, fun i x hi j u hj => ?_⟩
  match j, hj with
  | 0, hj => simp [enc1] at hj; subst hj; simpa using hcell i x hi
  | j + 1, hj => simp [enc1] at hj
theorem S1.lit (w : World) (n : Nat) (hn : n = w.heap.size) (t : TypeId) (cs : Array Value) (f : α → Value) (l : List α) (m : Nat) (hm : m = l.length) (h : cs = (l.map f).toArray) (hl : l.length ≤ maxLen) :
    S1 (w.alloc (.cells cs t)) f (.slice (some ⟨n, 0, none⟩) m m) l := by
  subst hn hm h
  refine S1.mk (Nat.le_refl _) hl fun _ => ⟨w.heap.size, 0, rfl, by simp, fun i x hi => ?_⟩
  rw [cell_alloc_new]
  simp [hi]
theorem own_S1 {base : Nat} {e : TypeId} (h : w.ownsRow base e 1 v l.length (l.map f)) : S1 w f v l := by
  rcases h.2 with ⟨rfl, h0⟩ | ⟨g, cap, cur, rfl, hb, hg, hn', hm, hs, ht⟩
  · have : l = [] := List.eq_nil_of_length_eq_zero h0
    subst this
    exact S1.nil _ _
  · refine S1.mk hn' hm fun _ => ⟨g, 0, rfl, (Array.getElem?_eq_some_iff.1 hg).1, fun i x hi => ?_⟩
    have := h.cells (g := g) rfl i (f x) (by simp [hi])
    rw [add_lit] at this
    exact this
theorem own_form {base : Nat} {e : TypeId} {size n : Nat} {xs : List Value} (h : w.ownsRow base e size v n xs) : ∃ A c, v = .slice A n c := by
  rcases h.2 with ⟨rfl, rfl⟩ | ⟨_, _, _, rfl, _⟩ <;> exact ⟨_, _, rfl⟩
theorem own_up {W W' : World} {B e size n : Nat} {v : Value} {xs : List Value} (h : W.ownsRow B e size v n xs) (hb : Below W.heap.size W W') : W'.ownsRow B e size v n xs :=
  h.kept (row := none) ⟨hb.os, hb.tape, hb.output, hb.size, fun k hk _ => hb.block k hk⟩ (by rcases h.2 with ⟨rfl, _⟩ | ⟨g, cap, cur, rfl, _⟩ <;> simp [Value.ownBlock])
theorem ownsRow_base' {W : World} {B B' e size n : Nat} {v : Value} {xs : List Value} (h : W.ownsRow B e size v n xs) (hB : B' ≤ B) : W.ownsRow B' e size v n xs := by
  refine ⟨h.1, ?_⟩
  rcases h.2 with h2 | ⟨g, cap, cur, hv, hb, r⟩
  · exact .inl h2
  · exact .inr ⟨g, cap, cur, hv, Nat.le_trans hB hb, r⟩
theorem cell_al {p : Addr} {u : Value} (h : w.cell? p = some u) (o : Obj) : (w.alloc o).cell? p = some u :=
  (((Below.refl w.heap.size w).alloc (Nat.le_refl _) o).cell (World.block_lt_of_cell? w p h)).trans h
theorem grown_below {W w1 : World} {r : Option Nat} (hb : Below w.heap.size w W) (hg : W.grownBy w1 r) (hr : ∀ k, r = some k → w.heap.size ≤ k) : Below w.heap.size w w1 := hb.grown hg hb.size hr
end

/-! ### Integers and lists of lists -/
abbrev iV (x : Int) : Value := .int .i64 x
abbrev SI (w : World) (v : Value) (l : List Int) : Prop := S1 w iV v l
/-- The slice v reads as a list of lists: its cells are the slices p.1, which read as the lists p.2. -/
def SP (w : World) (v : Value) (ps : List (Value × List Int)) : Prop := S1 w (·.1) v ps ∧ ∀ p ∈ ps, SI w p.1 p.2
def SS (w : World) (v : Value) (L : List (List Int)) : Prop := ∃ ps : List (Value × List Int), ps.map (·.2) = L ∧ SP w v ps
theorem SP.up {w w' : World} {v : Value} {ps : List (Value × List Int)} (h : SP w v ps) (hb : Below w.heap.size w w') : SP w' v ps := ⟨h.1.up hb, fun p hp => (h.2 p hp).up hb⟩
theorem SS.up {w w' : World} {v : Value} {L : List (List Int)} (h : SS w v L) (hb : Below w.heap.size w w') : SS w' v L := by
  obtain ⟨ps, e, h⟩ := h; exact ⟨ps, e, h.up hb⟩
theorem SS.al {w : World} {v : Value} {L : List (List Int)} (h : SS w v L) (o : Obj) : SS (w.alloc o) v L := h.up ((Below.refl _ _).alloc (Nat.le_refl _) _)
theorem SS.drew {w : World} {v : Value} {L : List (List Int)} (h : SS w v L) : SS w.drew v L := h
theorem SS.nil (w : World) : SS w (.slice none 0 0) [] := ⟨[], rfl, S1.nil _ _, fun _ h => by cases h⟩
/-- What a walk uses. -/
theorem SS.form {w : World} {v : Value} {L : List (List Int)} (h : SS w v L) : ∃ A c, v = .slice A L.length c ∧ L.length ≤ c ∧ c ≤ maxLen ∧
    (0 < L.length → ∃ b off, A = some ⟨b, off, none⟩ ∧ b < w.heap.size ∧ ∀ i x, L[i]? = some x → ∃ u, w.cell? ⟨b, off + i, none⟩ = some u ∧ SI w u x) := by
  obtain ⟨ps, rfl, h1, h2⟩ := h
  obtain ⟨A, c, rfl, hc, hm, hA⟩ := h1.form
  refine ⟨A, c, by simp, by simpa using hc, hm, fun h0 => ?_⟩
  obtain ⟨b, off, e, hb, hcell⟩ := hA (by simpa using h0)
  refine ⟨b, off, e, hb, fun i x hi => ?_⟩
  rw [List.getElem?_map] at hi
  obtain ⟨p, hp, rfl⟩ := Option.map_eq_some_iff.1 hi
  exact ⟨p.1, hcell i p hp, h2 p (List.mem_of_getElem? hp)⟩
theorem SI.slice_form {w : World} {v : Value} {l : List Int} (h : SI w v l) : ∃ A c, v = .slice A l.length c := by
  obtain ⟨A, c, e, _⟩ := h; exact ⟨A, c, e⟩

end Go.Proofs.YtbmdfnifbimfmaaGreatDoor
