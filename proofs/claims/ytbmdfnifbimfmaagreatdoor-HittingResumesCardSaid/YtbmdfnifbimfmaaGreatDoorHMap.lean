/- Maps that a call owns, as functions of their keys: any element type, keys of one kind. -/
import Derived.Maps.OwnSet
import Derived.Maps.OwnOps
import Derived.StringKeys
import Derived.Test.YtbmdfnifbimfmaaGreatDoorHMem
namespace Go.Proofs.YtbmdfnifbimfmaaGreatDoor
open Go.RowKit
open Go.Maps (Keyed)

/-- An element as it is. -/
def heldR (v : Value) : Option (DataW Value × List MemPlace) := some (.held v, [])

/-- A kind of keys: their values and their literals. -/
structure KK (P : Program) (k : TypeId) (κ : Type) where
  kv : κ → Value
  kl : κ → Lit
  ok : κ → Prop
  keyed : Keyed P k
  key : ∀ x, ok x → keyOf P k (kv x) = some (kl x)
  inj : ∀ x y, kl x = kl y → x = y

section
variable {P : Program} {k : TypeId} {κ : Type} {w w' : World} {b n : Nat} {f : κ → Option Value}

def upd [DecidableEq κ] (f : κ → Option Value) (x : κ) (u : Option Value) : κ → Option Value := fun y => if y = x then u else f y

/-- Block b of w is a map of at most n entries: the function f. -/
def MapF (w : World) (K : KK P k κ) (b n : Nat) (f : κ → Option Value) : Prop :=
  ∃ D : DataW Value, w.ownsMap P k heldR b n D ∧ (∀ x, K.ok x → (Maps.has D (K.kl x) = (f x).isSome ∧ ∀ z, D.atKey (K.kl x) z = match f x with | some u => .held u | none => z)) ∧
    (∃ es, D = .map es ∧ ∀ p ∈ es, ∃ x, K.ok x ∧ p.1 = K.kl x)

theorem mem_insert {H : Type} (x : Lit × DataW H) : ∀ (l : List (Lit × DataW H)) (p : Lit × DataW H), p ∈ DataW.insert x l → p = x ∨ p ∈ l
  | [], p, h => by simp [DataW.insert] at h; exact .inl h
  | y :: r, p, h => by
    unfold DataW.insert at h
    split at h
    · rcases List.mem_cons.1 h with h | h
      · exact .inl h
      · exact .inr h
    · rcases List.mem_cons.1 h with h | h
      · exact .inr (by rw [h]; exact List.mem_cons_self)
      · rcases mem_insert x r p h with h | h
        · exact .inl h
        · exact .inr (List.mem_cons_of_mem _ h)

theorem MapF.lt {K : KK P k κ} (h : MapF w K b n f) : b < w.heap.size := by obtain ⟨D, h1, _⟩ := h; exact h1.lt
theorem MapF.made (w : World) (K : KK P k κ) : MapF (w.alloc (.map #[] 0)) K w.heap.size 0 (fun _ => none) :=
  ⟨.map [], World.ownsMap_made w P k heldR, fun _ _ => ⟨rfl, fun _ => rfl⟩, [], rfl, fun _ h => by cases h⟩
theorem MapF.mono {K : KK P k κ} (h : MapF w K b n f) {n' : Nat} (hn : n ≤ n') : MapF w K b n' f := by
  obtain ⟨D, h1, h2⟩ := h; exact ⟨D, h1.mono hn, h2⟩
theorem MapF.kept {K : KK P k κ} {row : Option Nat} (h : MapF w K b n f) (hg : w.grownBy w' row) (hne : some b ≠ row) : MapF w' K b n f := by
  obtain ⟨D, h1, h2⟩ := h; exact ⟨D, h1.kept hg hne, h2⟩
theorem MapF.up {K : KK P k κ} (h : MapF w K b n f) (hb : Below w.heap.size w w') : MapF w' K b n f :=
  h.kept (row := none) ⟨hb.os, hb.tape, hb.output, hb.size, fun k hk _ => hb.block k hk⟩ (by simp)
theorem MapF.alloc {K : KK P k κ} (h : MapF w K b n f) (o : Obj) : MapF (w.alloc o) K b n f := h.kept (World.grownBy_alloc w o none) (by simp)
theorem MapF.drew {K : KK P k κ} (h : MapF w K b n f) : MapF w.drew K b n f := h
theorem MapF.drewN {K : KK P k κ} (h : MapF w K b n f) (q : Nat) : MapF (w.drewN q) K b n f := h
theorem MapF.setCell {K : KK P k κ} (h : MapF w K b n f) {a : Addr} (ha : b ≠ a.block) (u : Value) : MapF (w.setCell a u) K b n f := by
  obtain ⟨D, h1, h2⟩ := h; exact ⟨D, h1.setCell ha u, h2⟩
theorem MapF.congr {K : KK P k κ} {g : κ → Option Value} (h : MapF w K b n f) (e : ∀ x, K.ok x → f x = g x) : MapF w K b n g := by
  obtain ⟨D, h1, h2, h3⟩ := h
  exact ⟨D, h1, fun x hx => by rw [← e x hx]; exact h2 x hx, h3⟩

theorem MapF.look {K : KK P k κ} {t e : TypeId} (h : MapF w K b n f) (ht : P.underlying t = some (.map k e)) {z : Value} (hz : (zeroValue e).run P w = .ok z w) {x : κ} (hx : K.ok x) :
    (Instr.lookup t (.map (some b)) (K.kv x) false).run P w = .ok ((f x).getD z) w := by
  obtain ⟨D, h1, h2, _⟩ := h
  obtain ⟨v, ps, hr, hv⟩ := h1.lookup K.keyed ht hz (zd := .held z) (zp := []) rfl (K.key x hx)
  rw [hr]
  have := (h2 x hx).2 (.held z)
  rw [this] at hv
  unfold heldR at hv
  cases hf : f x with
  | none => rw [hf] at hv; simp at hv; rw [hv.1]; rfl
  | some u => rw [hf] at hv; simp at hv; rw [hv.1]; rfl

theorem MapF.look_ok {K : KK P k κ} {t e : TypeId} (h : MapF w K b n f) (ht : P.underlying t = some (.map k e)) {z : Value} (hz : (zeroValue e).run P w = .ok z w) {x : κ} (hx : K.ok x) :
    (Instr.lookup t (.map (some b)) (K.kv x) true).run P w = .ok (.tuple #[(f x).getD z, .bool (f x).isSome]) w := by
  obtain ⟨D, h1, h2, _⟩ := h
  obtain ⟨v, ps, hr, hv⟩ := h1.look_ok K.keyed ht hz (zd := .held z) (zp := []) rfl (K.key x hx)
  rw [hr, (h2 x hx).1]
  have := (h2 x hx).2 (.held z)
  rw [this] at hv
  unfold heldR at hv
  cases hf : f x with
  | none => rw [hf] at hv; simp at hv; rw [hv.1]; rfl
  | some u => rw [hf] at hv; simp at hv; rw [hv.1]; rfl

theorem MapF.put [DecidableEq κ] {K : KK P k κ} {t e : TypeId} (h : MapF w K b n f) (ht : P.underlying t = some (.map k e)) (hn : n < maxLen) {x : κ} (hx : K.ok x) (u : Value) :
    ∃ w', (Instr.mapUpdate t (.map (some b)) (K.kv x) u).run P w = .ok () w' ∧ MapF w' K b (n + 1) (upd f x (some u)) ∧ w.grownBy w' (some b) := by
  obtain ⟨D, h1, h2, es, rfl, h3⟩ := h
  obtain ⟨w', hr, h4, h5⟩ := h1.update K.keyed ht hn (val := u) (d := .held u) (ps := []) (K.key x hx) rfl
  refine ⟨w', hr, ⟨_, h4, fun y hy => ?_, _, rfl, fun p hp => ?_⟩, h5⟩
  · have hk := K.keyed.key (K.key x hx)
    unfold upd
    by_cases hyx : y = x
    · subst hyx
      rw [if_pos rfl]
      exact ⟨Maps.has_put_same ⟨_, rfl⟩ hk _, fun z => Maps.atKey_put_same ⟨_, rfl⟩ hk _ z⟩
    · rw [if_neg hyx]
      have hne : K.kl y ≠ K.kl x := fun e => hyx (K.inj _ _ e)
      exact ⟨(Maps.has_put_other hne _).trans (h2 y hy).1, fun z => (Maps.atKey_put_other hne _ z).trans ((h2 y hy).2 z)⟩
  · rcases mem_insert _ _ _ hp with rfl | hp
    · exact ⟨x, hx, rfl⟩
    · exact h3 p (List.mem_filter.1 hp).1

theorem MapF.del [DecidableEq κ] {K : KK P k κ} {t e : TypeId} (h : MapF w K b n f) (ht : P.underlying t = some (.map k e)) {x : κ} (hx : K.ok x) (ty : TypeId) :
    ∃ w', (Builtin.delete_ #[t, k] ty #[.map (some b), K.kv x]).run P w = .ok (.tuple #[]) w' ∧ MapF w' K b n (upd f x none) ∧ w.grownBy w' (some b) := by
  obtain ⟨D, h1, h2, es, rfl, h3⟩ := h
  obtain ⟨w', hr, h4, h5⟩ := h1.drop K.keyed ht (K.key x hx) ty
  refine ⟨w', hr, ⟨_, h4, fun y hy => ?_, _, rfl, fun p hp => h3 p (List.mem_filter.1 hp).1⟩, h5.grown⟩
  unfold upd
  by_cases hyx : y = x
  · subst hyx
    rw [if_pos rfl]
    exact ⟨Maps.has_del_same, fun z => Maps.atKey_del_same z⟩
  · rw [if_neg hyx]
    have hne : K.kl y ≠ K.kl x := fun e => hyx (K.inj _ _ e)
    exact ⟨(Maps.has_del_other hne).trans (h2 y hy).1, fun z => (Maps.atKey_del_other hne z).trans ((h2 y hy).2 z)⟩

theorem MapF.len {K : KK P k κ} {t e : TypeId} (h : MapF w K b n f) (ht : P.underlying t = some (.map k e)) (ty : TypeId) :
    ∃ m : Nat, (Builtin.len_ #[t] ty #[.map (some b)]).run P w = .ok (.int .i64 m) w ∧ (m = 0 ↔ ∀ x, K.ok x → f x = none) ∧ m ≤ n := by
  obtain ⟨D, h1, h2, es, rfl, h3⟩ := h
  refine ⟨_, h1.len ht ty, ?_, h1.size_le⟩
  rw [Maps.size_eq]
  constructor
  · intro h0 x hx
    have hes : es = [] := List.eq_nil_of_length_eq_zero h0
    subst hes
    have := (h2 x hx).1
    cases hf : f x with
    | none => rfl
    | some u => rw [hf] at this; cases this
  · intro h0
    match es, h3, h2 with
    | [], _, _ => rfl
    | p :: es, h3, h2 =>
      obtain ⟨x, hx, hp⟩ := h3 p (by simp)
      have h4 := (h2 x hx).1
      rw [h0 x hx, Maps.has_eq, List.any_cons, hp] at h4
      have hs : (K.kl x).sameKey (K.kl x) = true := by
        have hk := K.keyed.key (K.key x hx)
        have := Maps.has_put_same (D := .map []) ⟨_, rfl⟩ hk (DataW.held (H := Value) (.bool true))
        simpa [Maps.has_eq, DataW.put, DataW.insert] using this
      rw [hs] at h4; cases h4
end

/-! ### At the operation, for the walk -/
section
variable {P : Program} {k : TypeId} {κ : Type} [DecidableEq κ]
theorem wpList_put (w : World) {ops : Array Oper} {rest : List Oper} {o : Oper} {a : Act} {Q : Exit → Act → World → Prop}
    (hg : o.guard = none) (m x v : Operand) (t : TypeId) (hop : o.op = Op.mapUpdate t m x v) (e : TypeId) (K : KK P k κ) (ht : P.underlying t = some (.map k e)) (b n : Nat) (f : κ → Option Value)
    (hm : a.eval m = .map (some b)) (hown : MapF w K b n f) (hn : n < maxLen) (y : κ) (hy : K.ok y) (u : Value) (hx : a.eval x = K.kv y) (hv : a.eval v = u)
    (hK : ∀ w', MapF w' K b (n + 1) (upd f y (some u)) → w.grownBy w' (some b) → wpList P ops Q rest (a.put o.dst undef) w') :
    wpList P ops Q (o :: rest) a w := by
  refine wpList_plain hg fun K' hK' => ?_
  obtain ⟨w', hrun, r1, r2⟩ := hown.put ht hn hy u
  unfold Oper.wp
  simp [execOp, hop, hm, hx, hv, hrun, Result.andThen]
  exact hK' _ _ (hK w' r1 r2)
theorem wpList_del (w : World) {ops : Array Oper} {rest : List Oper} {o : Oper} {a : Act} {Q : Exit → Act → World → Prop}
    (hg : o.guard = none) (m x : Operand) (t : TypeId) (hop : o.op = Op.call { callee := Callee.builtin Builtin.delete, args := #[m, x], argTypes := #[t, k] }) (e : TypeId) (K : KK P k κ) (ht : P.underlying t = some (.map k e)) (b n : Nat) (f : κ → Option Value)
    (hm : a.eval m = .map (some b)) (hown : MapF w K b n f) (y : κ) (hy : K.ok y) (hx : a.eval x = K.kv y)
    (hK : ∀ w', MapF w' K b n (upd f y none) → w.grownBy w' (some b) → wpList P ops Q rest (a.put o.dst (.tuple #[])) w') :
    wpList P ops Q (o :: rest) a w := by
  refine wpList_plain hg fun K' hK' => ?_
  obtain ⟨w', hrun, r1, r2⟩ := hown.del ht hy o.type
  unfold Oper.wp execOp
  simp only [hop, resolve, invoke, builtin, Sem.run_bind, Sem.run_pure, Result.andThen_ok, List.map_toArray, List.map_cons, List.map_nil, hm, hx, hrun]
  exact hK' _ _ (hK w' r1 r2)
end

/-! ### Keys: ints, strings -/
def wfI (x : Int) : Prop := (Lit.int .i64 x).wf = true
def intKK {P : Program} {k : TypeId} (hk : P.underlying k = some (.int .i64)) : KK P k Int :=
  ⟨fun x => .int .i64 x, fun x => .int .i64 x, wfI, Maps.int_keyed hk, fun _ hx => Maps.keyOf_int_mk hk hx, fun x y h => by injection h⟩
def strKK {P : Program} {k : TypeId} (hk : P.underlying k = some .string) : KK P k (List UInt8) :=
  ⟨fun s => .string ⟨s.toArray⟩, fun s => .string s, fun s => s.length ≤ maxLen, Maps.string_keyed hk, fun s hs => by
    have := WideMaps.keyOf_string_mk hk (s := ⟨s.toArray⟩) hs
    simpa using this, fun x y h => by injection h⟩
end Go.Proofs.YtbmdfnifbimfmaaGreatDoor
