/- key: a text that only equal lists have in common. -/
import Derived.Test.YtbmdfnifbimfmaaGreatDoorH4
import Derived.Lib.ItoaLen
import Derived.Lib.ItoaNum
import Derived.Sort.Grow
namespace Go.Proofs.YtbmdfnifbimfmaaGreatDoor
open Go.RowKit Go.Sort

/-- strconv's table lies as the program lays it. -/
def Tab (w : World) : Prop := Lib.TabIs Tryz.prog w "internal/strconv.uint64pow10" .u64 Lib.pow10Tab
theorem tabG : ∃ g, Tryz.prog.globalNamed "internal/strconv.uint64pow10" = some g := ⟨0, by kernel_rfl⟩
theorem Tab.keep {w w' : World} (h : Tab w) (hk : ∀ g, Tryz.prog.globalNamed "internal/strconv.uint64pow10" = some g → g < w.heap.size → w'.heap[g]? = w.heap[g]?) : Tab w' := by
  obtain ⟨g, hg⟩ := tabG
  unfold Tab Lib.TabIs World.var? at h ⊢
  rw [hg] at h ⊢
  simp only [Option.bind_some] at h ⊢
  rcases Nat.lt_or_ge g w.heap.size with hlt | hge
  · rw [hk g hg hlt]; exact h
  · rw [Array.getElem?_eq_none hge] at h; cases h
theorem Tab.up {w w' : World} (h : Tab w) (hb : Below w.heap.size w w') : Tab w' := h.keep fun g _ hlt => hb.block g hlt
theorem Tab.al {w : World} (h : Tab w) (o : Obj) : Tab (w.alloc o) := h.up ((Below.refl _ _).alloc (Nat.le_refl _) _)

theorem below_grow (w : World) (q : Nat) (os : Array Obj) : Below w.heap.size w (grow (w.drewN q) os) :=
  ⟨rfl, rfl, rfl, by simp [grow, World.drewN], fun i hi => by
    show (w.heap ++ os)[i]? = _
    rw [Array.getElem?_append_left hi]⟩

theorem Bld.up {B b : Nat} {bs : List Value} {w w' : World} (h : Bld B b bs w) (hb : Below w.heap.size w w') : Bld B b bs w' := by
  rcases h with ⟨hB, v, hbk, hown, hne⟩ | ⟨hB, v, hbk, hown, hne⟩
  · exact .inl ⟨hB, v, (hb.block b (Array.getElem?_eq_some_iff.1 hbk).1).trans hbk, own_up hown hb, hne⟩
  · exact .inr ⟨hB, v, (hb.block b (Array.getElem?_eq_some_iff.1 hbk).1).trans hbk, own_up hown hb, hne⟩

def keyL (l : List Int) : List UInt8 := l.flatMap fun n => Lib.itoa n ++ [44]
theorem keyL_snoc (l : List Int) (x : Int) : keyL (l ++ [x]) = keyL l ++ (Lib.itoa x ++ [44]) := by simp [keyL]
theorem keyL_len : ∀ (l : List Int), (∀ x ∈ l, wfI x) → (keyL l).length ≤ 22 * l.length
  | [], _ => by simp [keyL]
  | x :: l, h => by
    have h1 := keyL_len l fun y hy => h y (by simp [hy])
    have h2 := wfI_iff.1 (h x (by simp))
    have h3 := Lib.itoa_length_le x h2.1 h2.2
    unfold keyL at h1 ⊢
    rw [List.flatMap_cons, List.length_append, List.length_append, List.length_cons]
    simp only [List.length_cons, List.length_nil]
    omega
theorem byteCells_append (a b : List UInt8) : Lib.byteCells (a ++ b) = Lib.byteCells a ++ Lib.byteCells b := by simp [Lib.byteCells]

set_option maxRecDepth 100000 in
set_option maxHeartbeats 2000000 in
theorem key_any (v : Value) (l : List Int) (w : World) (h : SI w v l) (hw : ∀ x ∈ l, wfI x) (hl : l.length ≤ 1000000) (ht : Tab w) :
    Calls Tryz.prog 42 #[v] w fun e w' => e = .returned (.string ⟨(keyL l).toArray⟩) ∧ Below w.heap.size w w' := by
  obtain ⟨A1, c1, rfl, _, hm1, hA1⟩ := h.form
  unfold maxLen at hm1
  have H1 := Lib.hid hA1
  have HW := Lib.hid hw
  have HT := Lib.hid ht
  clear hA1 h hm1 hw ht
  go_enter Tryz.func42, Tryz.ntmps42
  go_wp2_with fail
  go_loopw [8] (fun i wr => ∃ k : Nat, k ≤ l.length ∧ i = .int .i64 k ∧ Hid (Bld w.heap.size w.heap.size (Lib.byteCells (keyL (l.take k))) wr) ∧ Below w.heap.size w wr) (fun i _ => l.length - (intOf i).toNat)
  case atStart => exact ⟨0, Nat.zero_le _, rfl, Lib.hid (Lib.fresh_isBuilder _ _ w), (Below.refl _ _).alloc (Nat.le_refl _) _⟩
  case round =>
    obtain ⟨k, hk, rfl, HB, hB⟩ := hrel
    by_cases hlt : k < l.length
    · obtain ⟨b1, o1, rfl, hb1, hc1⟩ := H1.out (by omega)
      obtain ⟨x, hx⟩ := get_some hlt
      have d1 := (hB.cell (p := ⟨b1, o1 + k, none⟩) hb1).trans (hc1 k x hx)
      have hwx := wfI_iff.1 (HW.out x (List.mem_of_getElem? hx))
      have hlen := keyL_len (l.take k) fun y hy => HW.out y (List.mem_of_mem_take hy)
      have hi := Lib.itoa_length_le x hwx.1 hwx.2
      rw [List.length_take] at hlen
      have HS := Lib.hid (show keyL (l.take (k + 1)) = keyL (l.take k) ++ (Lib.itoa x ++ [44]) by rw [take_snoc hx, keyL_snoc])
      clear hc1 hx
      generalize keyL (l.take k) = kl at *
      generalize hit : Lib.itoa x = it at *
      have HIT := Lib.hid hit
      clear hit
      have hlen' : kl.length ≤ 22 * k := by omega
      clear hlen
      go_wp2_with fail
      refine (Tryz.strconv_Itoa x hwx.1 hwx.2 _ (HT.out.up hB)).mono ?_
      rintro e w1 ⟨rfl, q, os, hq⟩
      rw [HIT.out]
      have hg : Below wr.heap.size wr w1 := by rw [hq]; exact below_grow wr q os
      clear hq
      have HB1 := Lib.hid (Bld.up HB.out hg)
      have hB1 := bAfter hB hg
      clear HB hg d1
      go_wp2_with fail
      refine (writeString_any w.heap.size w.heap.size _ ⟨it.toArray⟩ _ HB1.out (by rw [Lib.byteCells_length]; show kl.length + it.toArray.size ≤ _; simp; omega) hB1.size).mono ?_
      rintro e w2 ⟨rfl, hu2, hb2⟩
      have hB2 : Below w.heap.size w w2 := hB1.trans hb2
      have HB2 : Hid (Bld w.heap.size w.heap.size (Lib.byteCells (kl ++ it)) w2) := Lib.hid (.inr (by rw [byteCells_append]; exact hu2))
      clear hu2 hb2 HB1
      go_wp2_with fail
      refine (writeByte_any w.heap.size w.heap.size _ 44 _ HB2.out (by rw [Lib.byteCells_length, List.length_append]; omega) hB2.size).mono ?_
      rintro e w3 ⟨rfl, hu3, hb3⟩
      have hB3 : Below w.heap.size w w3 := hB2.trans hb3
      have HB3 : Hid (Bld w.heap.size w.heap.size (Lib.byteCells (keyL (l.take (k + 1)))) w3) := Lib.hid (.inr (by rw [HS.out, ← List.append_assoc, byteCells_append (kl ++ it)]; exact hu3))
      clear hu3 hb3 HB2
      go_wp2_with fail
      go_roundw
      case rel => exact ⟨k + 1, by omega, by go_num, HB3, hB3⟩
      case measure => simp [intOf]; omega
    · obtain rfl : k = l.length := by omega
      have HB2 : Hid (Bld w.heap.size w.heap.size (Lib.byteCells (keyL l)) wr) := Lib.hid (by have := HB.out; rwa [List.take_length] at this)
      clear HB
      go_wp2_with fail
      refine (Tryz.Builder_String_any w.heap.size w.heap.size (keyL l) _ HB2.out hB.size).mono ?_
      rintro e w1 ⟨rfl, hb1⟩
      go_wp2_with fail
      go_ret
      exact ⟨rfl, hB.trans hb1⟩

/-! ### The key tells the list -/
def isDig (c : UInt8) : Prop := 48 ≤ c.toNat ∧ c.toNat ≤ 57
theorem dig_isDig (u : Nat) : ∀ c ∈ Lib.decDigits u, isDig c := by
  induction u using Nat.strongRecOn with
  | ind u ih =>
    intro c hc
    rw [Lib.decDigits] at hc
    by_cases h : u < 10
    · rw [dif_pos h] at hc
      obtain rfl := List.mem_singleton.1 hc
      unfold isDig
      rw [UInt8.toNat_ofNat']
      omega
    · rw [dif_neg h] at hc
      rcases List.mem_append.1 hc with hc | hc
      · exact ih (u / 10) (by omega) c hc
      · obtain rfl := List.mem_singleton.1 hc
        unfold isDig
        rw [UInt8.toNat_ofNat']
        omega
def digVal (l : List UInt8) : Nat := l.foldl (fun n c => n * 10 + (c.toNat - 48)) 0
theorem digVal_dec (u : Nat) : digVal (Lib.decDigits u) = u := by
  induction u using Nat.strongRecOn with
  | ind u ih =>
    rw [Lib.decDigits]
    by_cases h : u < 10
    · rw [dif_pos h]
      simp only [digVal, List.foldl_cons, List.foldl_nil]
      rw [UInt8.toNat_ofNat']
      omega
    · rw [dif_neg h]
      unfold digVal at ih ⊢
      rw [List.foldl_append, ih (u / 10) (by omega)]
      simp only [List.foldl_cons, List.foldl_nil]
      rw [UInt8.toNat_ofNat']
      omega
theorem itoa_ne44 (n : Int) : ∀ c ∈ Lib.itoa n, c ≠ 44 := by
  intro c hc e
  subst e
  unfold Lib.itoa at hc
  split at hc
  · rcases List.mem_cons.1 hc with h | h
    · cases h
    · have := dig_isDig _ _ h; unfold isDig at this; simp at this
  · have := dig_isDig _ _ hc; unfold isDig at this; simp at this
theorem itoa_inj {a b : Int} (h : Lib.itoa a = Lib.itoa b) : a = b := by
  have hd : ∀ u : Nat, ∀ r, Lib.decDigits u ≠ 45 :: r := fun u r e => by
    have := dig_isDig u 45 (by rw [e]; simp)
    unfold isDig at this; simp at this
  unfold Lib.itoa at h
  by_cases h1 : a < 0 <;> by_cases h2 : b < 0
  · rw [if_pos h1, if_pos h2] at h
    injection h with _ h
    have := congrArg digVal h
    rw [digVal_dec, digVal_dec] at this
    omega
  · rw [if_pos h1, if_neg h2] at h; exact absurd h.symm (hd _ _)
  · rw [if_neg h1, if_pos h2] at h; exact absurd h (hd _ _)
  · rw [if_neg h1, if_neg h2] at h
    have := congrArg digVal h
    rw [digVal_dec, digVal_dec] at this
    omega
theorem split_comma : ∀ {a b r s : List UInt8}, (∀ c ∈ a, c ≠ 44) → (∀ c ∈ b, c ≠ 44) → a ++ 44 :: r = b ++ 44 :: s → a = b ∧ r = s
  | [], [], _, _, _, _, h => by injection h with _ h; exact ⟨rfl, h⟩
  | [], c :: b, _, _, _, hb, h => by injection h with h _; exact absurd h.symm (hb c (by simp))
  | c :: a, [], _, _, ha, _, h => by injection h with h _; exact absurd h (ha c (by simp))
  | c :: a, d :: b, r, s, ha, hb, h => by
    injection h with h1 h2
    obtain ⟨h3, h4⟩ := split_comma (a := a) (b := b) (fun x hx => ha x (by simp [hx])) (fun x hx => hb x (by simp [hx])) h2
    exact ⟨by rw [h1, h3], h4⟩
theorem keyL_inj : ∀ {a b : List Int}, keyL a = keyL b → a = b
  | [], [], _ => rfl
  | [], y :: b, h => by simp [keyL] at h
  | x :: a, [], h => by simp [keyL] at h
  | x :: a, y :: b, h => by
    have e : ∀ (z : Int) (c : List Int), keyL (z :: c) = Lib.itoa z ++ 44 :: keyL c := fun z c => by simp [keyL]
    rw [e, e] at h
    obtain ⟨h1, h2⟩ := split_comma (itoa_ne44 x) (itoa_ne44 y) h
    rw [itoa_inj h1, keyL_inj h2]
end Go.Proofs.YtbmdfnifbimfmaaGreatDoor
