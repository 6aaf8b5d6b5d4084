/- sane: the walk. -/
import Derived.Test.YtbmdfnifbimfmaaGreatDoorLs
namespace Go.Proofs.YtbmdfnifbimfmaaGreatDoor
open Go.RowKit Go.Shelf
attribute [local go_sem] Oper.semAt_some

/-- Literal lists of lists. -/
theorem lit_si (w : World) (l : List Int) (m g : Nat) (hm : m = l.length) (hg : g = w.heap.size) (hl : l.length ≤ 1000) : SI (w.alloc (.cells (l.map iV).toArray 3)) (.slice (some ⟨g, 0, none⟩) m m) l :=
  S1.lit w g hg 3 _ iV l m hm rfl (by simp only [maxLen]; omega)
theorem lit_ss (w : World) (ps : List (Value × List Int)) (m g : Nat) (hm : m = ps.length) (hg : g = w.heap.size) (hl : ps.length ≤ 1000) (h : ∀ p ∈ ps, SI w p.1 p.2) : SS (w.alloc (.cells (ps.map (·.1)).toArray 23)) (.slice (some ⟨g, 0, none⟩) m m) (ps.map (·.2)) :=
  ⟨ps, rfl, S1.lit w g hg 23 _ (·.1) ps m hm rfl (by simp only [maxLen]; omega), fun p hp => (h p hp).al _⟩
theorem wfl_small {l : List Int} (h : ∀ x ∈ l, 0 ≤ x ∧ x ≤ 1023) : ∀ x ∈ l, wfI x := fun x hx => by have := h x hx; exact wfI_of (by omega) (by omega)

theorem lit3 (w : World) (n : Nat) (hn : n = w.heap.size) (a b c : List Int) (ha : a.length ≤ 1000) (hb : b.length ≤ 1000) (hc : c.length ≤ 1000) :
    SS ((((w.alloc (.cells (a.map iV).toArray 3)).alloc (.cells (b.map iV).toArray 3)).alloc (.cells (c.map iV).toArray 3)).alloc (.cells #[.slice (some ⟨n, 0, none⟩) a.length a.length, .slice (some ⟨n + 1, 0, none⟩) b.length b.length, .slice (some ⟨n + 1 + 1, 0, none⟩) c.length c.length] 23)) (.slice (some ⟨n + 1 + 1 + 1, 0, none⟩) 3 3) [a, b, c] ∧
      Below w.heap.size w ((((w.alloc (.cells (a.map iV).toArray 3)).alloc (.cells (b.map iV).toArray 3)).alloc (.cells (c.map iV).toArray 3)).alloc (.cells #[.slice (some ⟨n, 0, none⟩) a.length a.length, .slice (some ⟨n + 1, 0, none⟩) b.length b.length, .slice (some ⟨n + 1 + 1, 0, none⟩) c.length c.length] 23)) := by
  refine ⟨lit_ss _ [(.slice (some ⟨n, 0, none⟩) a.length a.length, a), (.slice (some ⟨n + 1, 0, none⟩) b.length b.length, b), (.slice (some ⟨n + 1 + 1, 0, none⟩) c.length c.length, c)] 3 _ rfl (by simp [hn]) (by simp) (fun p hp => ?_), bAl (bAl (bAl (bAl (Below.refl _ _) _) _) _) _⟩
  simp only [List.mem_cons, List.not_mem_nil, or_false] at hp
  rcases hp with rfl | rfl | rfl
  · exact ((lit_si w a _ _ rfl hn ha).al _).al _
  · exact (lit_si _ b _ _ rfl (by simp [hn]) hb).al _
  · exact lit_si _ c _ _ rfl (by simp [hn]) hc
theorem lit2 (w : World) (n : Nat) (hn : n = w.heap.size) (a b : List Int) (ha : a.length ≤ 1000) (hb : b.length ≤ 1000) :
    SS (((w.alloc (.cells (a.map iV).toArray 3)).alloc (.cells (b.map iV).toArray 3)).alloc (.cells #[.slice (some ⟨n, 0, none⟩) a.length a.length, .slice (some ⟨n + 1, 0, none⟩) b.length b.length] 23)) (.slice (some ⟨n + 1 + 1, 0, none⟩) 2 2) [a, b] ∧
      Below w.heap.size w (((w.alloc (.cells (a.map iV).toArray 3)).alloc (.cells (b.map iV).toArray 3)).alloc (.cells #[.slice (some ⟨n, 0, none⟩) a.length a.length, .slice (some ⟨n + 1, 0, none⟩) b.length b.length] 23)) := by
  refine ⟨lit_ss _ [(.slice (some ⟨n, 0, none⟩) a.length a.length, a), (.slice (some ⟨n + 1, 0, none⟩) b.length b.length, b)] 2 _ rfl (by simp [hn]) (by simp) (fun p hp => ?_), bAl (bAl (bAl (Below.refl _ _) _) _) _⟩
  simp only [List.mem_cons, List.not_mem_nil, or_false] at hp
  rcases hp with rfl | rfl
  · exact (lit_si w a _ _ rfl hn ha).al _
  · exact lit_si _ b _ _ rfl (by simp [hn]) hb
theorem lit1 (w : World) (n : Nat) (hn : n = w.heap.size) (a : List Int) (ha : a.length ≤ 1000) :
    SS ((w.alloc (.cells (a.map iV).toArray 3)).alloc (.cells #[.slice (some ⟨n, 0, none⟩) a.length a.length] 23)) (.slice (some ⟨n + 1, 0, none⟩) 1 1) [a] ∧
      Below w.heap.size w ((w.alloc (.cells (a.map iV).toArray 3)).alloc (.cells #[.slice (some ⟨n, 0, none⟩) a.length a.length] 23)) := by
  refine ⟨lit_ss _ [(.slice (some ⟨n, 0, none⟩) a.length a.length, a)] 1 _ rfl (by simp [hn]) (by simp) (fun p hp => ?_), bAl (bAl (Below.refl _ _) _) _⟩
  rw [List.mem_singleton.1 hp]
  exact lit_si w a _ _ rfl hn ha

set_option maxRecDepth 100000 in
set_option maxHeartbeats 4000000 in
theorem sane_any (w : World) (hT : Tab w) : Calls Tryz.prog 9 #[] w fun e w' => e = .returned (.bool true) ∧ Below w.heap.size w w' := by
  have HT := Lib.hid hT
  clear hT
  go_enter Tryz.func9, Tryz.ntmps9
  go_wp2_with fail
  refine (Minimal_c _ [[1, 2], [2], [1, 3]] _ (lit3 w _ rfl [1, 2] [2] [1, 3] (by decide) (by decide) (by decide)).1 (by decide) (by simp) (HT.out.up (lit3 w _ rfl [1, 2] [2] [1, 3] (by decide) (by decide) (by decide)).2)).mono ?_
  rintro e w1 ⟨v1, M1, c1, rfl, hs1, hm1, _, hB1⟩
  obtain ⟨hM, hc⟩ := ex_min_c hm1
  have hB1' : Below w.heap.size w w1 := bAfter (lit3 w _ rfl [1, 2] [2] [1, 3] (by decide) (by decide) (by decide)).2 hB1
  clear hm1 hB1
  subst hM hc
  have HS1 := Lib.hid hs1
  have HB1 := Lib.hid hB1'
  clear hs1 hB1'
  go_wp2_with fail
  refine (All_any _ [[1, 2], [2, 3]] 2 _ (lit2 w1 _ rfl [1, 2] [2, 3] (by decide) (by decide)).1 (by decide) ((HT.out.up HB1.out).up (lit2 w1 _ rfl [1, 2] [2, 3] (by decide) (by decide)).2)).mono ?_
  rintro e w2 ⟨v2, M2, c2, rfl, hs2, hB2, hm2⟩
  obtain ⟨hM, hc⟩ := all_of ok_ex ex_all (by decide) hm2
  have hB2' : Below w1.heap.size w1 w2 := bAfter (lit2 w1 _ rfl [1, 2] [2, 3] (by decide) (by decide)).2 hB2
  clear hm2 hB2
  subst hM hc
  have HS2 := Lib.hid hs2
  have HS1 := Lib.hid (HS1.out.up hB2')
  have HB2 := Lib.hid (bAfter HB1.out hB2')
  clear hs2 hB2' HB1
  go_wp2_with fail
  refine (All_any _ [] 1 _ (SS.nil _) (by decide) (HT.out.up HB2.out)).mono ?_
  rintro e w3 ⟨v3, M3, c3, rfl, hs3, hB3, hm3⟩
  obtain ⟨hM, hc⟩ := all_of (ok_nil 1 (by decide) (by decide)) ex_nil (by decide) hm3
  clear hm3
  subst hM hc
  have HS3 := Lib.hid hs3
  have HS1 := Lib.hid (HS1.out.up hB3)
  have HS2 := Lib.hid (HS2.out.up hB3)
  have HB3 := Lib.hid (bAfter HB2.out hB3)
  clear hs3 hB3 HB2
  go_wp2_with fail
  refine (All_any _ [] 0 _ (SS.nil _) (by decide) (HT.out.up HB3.out)).mono ?_
  rintro e w4 ⟨v4, M4, c4, rfl, hs4, hB4, hm4⟩
  obtain ⟨hM, hc⟩ := all_full (ok_nil 0 (by decide) (by decide)) ex_nil (by decide) hm4
  clear hm4 hs4
  subst hM hc
  have HS1 := Lib.hid (HS1.out.up hB4)
  have HS2 := Lib.hid (HS2.out.up hB4)
  have HS3 := Lib.hid (HS3.out.up hB4)
  have HB4 := Lib.hid (bAfter HB3.out hB4)
  clear hB4 HB3
  go_wp2_with fail
  refine (Begin_any _).mono ?_
  rintro e w5 ⟨v5, rfl, hs5, hB5⟩
  have HS5 := Lib.hid hs5
  have HS1 := Lib.hid (HS1.out.up hB5)
  have HS2 := Lib.hid (HS2.out.up hB5)
  have HS3 := Lib.hid (HS3.out.up hB5)
  have HB5 := Lib.hid (bAfter HB4.out hB5)
  clear hs5 hB5 HB4
  go_wp2_with fail
  have hBl : Below w5.heap.size w5 (w5.alloc (.cells #[.int .i64 3, .int .i64 5] 3)) := bAl (Below.refl _ _) _
  refine (Give_some _ _ sr0 [3, 5] _ (HS5.out.up hBl) (lit_si w5 [3, 5] 2 _ rfl rfl (by decide)) (wfl_small (by simp)) (by decide) (by decide) (by decide) ((HT.out.up HB5.out).up hBl) (fun _ => insSS_any _ _ (by simp [rank, sr0]))).mono ?_
  rintro e w6 ⟨v6, s6, c6, rfl, hs6, hB6, hm6⟩
  obtain ⟨hM, hc⟩ := give_good1 hm6
  have hB6' := bAfter hBl hB6
  clear hm6 hB6 hBl
  subst hM hc
  obtain ⟨vF6, vO6, rfl, hF6, hO6⟩ := hs6
  have HO6 := Lib.hid hO6
  have HS1 := Lib.hid (HS1.out.up hB6')
  have HS2 := Lib.hid (HS2.out.up hB6')
  have HS3 := Lib.hid (HS3.out.up hB6')
  have HB6 := Lib.hid (bAfter HB5.out hB6')
  obtain ⟨AF6, cF6, hf6, _⟩ := hF6.form
  obtain ⟨AO6, cO6, ho6, _⟩ := hO6.form
  subst hf6 ho6
  obtain ⟨W6, hW6⟩ : ∃ W6, w6.alloc (.cells #[.slice AF6 1 cF6, .slice AO6 2 cO6, .int .i64 1, .bool false] 36) = W6 := ⟨_, rfl⟩
  have hb6 : Blk W6 w6.heap.size 36 #[.slice AF6 1 cF6, .slice AO6 2 cO6, .int .i64 1, .bool false] := by rw [← hW6]; exact Blk.new _ _ _
  have hB7 : Below w6.heap.size w6 W6 := by rw [← hW6]; exact bAl (Below.refl _ _) _
  have HO6 := Lib.hid (HO6.out.up hB7)
  have HS1 := Lib.hid (HS1.out.up hB7)
  have HS2 := Lib.hid (HS2.out.up hB7)
  have HS3 := Lib.hid (HS3.out.up hB7)
  have HB7 := Lib.hid (bAfter HB6.out hB7)
  have HK6 := Lib.hid hb6
  have HW6 := Lib.hid hW6
  clear hW6
  clear hF6 hO6 hB6' HB5 HS5 hb6 hB7 HB6
  go_wp2_with fail
  rw [HW6.out]
  clear HW6
  refine (Begin_any _).mono ?_
  rintro e w7 ⟨v7, rfl, hs7, hB7⟩
  have HS7 := Lib.hid hs7
  have HO6 := Lib.hid (HO6.out.up hB7)
  have HS1 := Lib.hid (HS1.out.up hB7)
  have HS2 := Lib.hid (HS2.out.up hB7)
  have HS3 := Lib.hid (HS3.out.up hB7)
  have HK6 := Lib.hid (HK6.out.below hB7)
  have HB8 := Lib.hid (bAfter HB7.out hB7)
  clear hs7 hB7 HB7
  go_wp2_with fail
  refine (Give_none _ _ sr0 [] _ HS7.out (S1.nil _ _) (fun _ h => (nomatch h)) (by decide) (by decide) (by decide) (HT.out.up HB8.out)).mono ?_
  rintro e w8 ⟨v8, s8, c8, rfl, hs8, hB8, hm8⟩
  obtain ⟨hM, hc⟩ := give_good2 hm8
  clear hm8
  subst hM hc
  obtain ⟨vF8, vO8, rfl, hF8, hO8⟩ := hs8
  obtain ⟨AF8, cF8, hf8, _⟩ := hF8.form
  obtain ⟨AO8, cO8, ho8, _⟩ := hO8.form
  subst hf8 ho8
  obtain ⟨W8, hW8⟩ : ∃ W8, w8.alloc (.cells #[.slice AF8 0 cF8, .slice AO8 0 cO8, .int .i64 1, .bool true] 36) = W8 := ⟨_, rfl⟩
  have hb8 : Blk W8 w8.heap.size 36 #[.slice AF8 0 cF8, .slice AO8 0 cO8, .int .i64 1, .bool true] := by rw [← hW8]; exact Blk.new _ _ _
  have hB9 : Below w8.heap.size w8 W8 := by rw [← hW8]; exact bAl (Below.refl _ _) _
  have hBz := bAfter hB8 hB9
  have HO6 := Lib.hid (HO6.out.up hBz)
  have HS1 := Lib.hid (HS1.out.up hBz)
  have HS2 := Lib.hid (HS2.out.up hBz)
  have HS3 := Lib.hid (HS3.out.up hBz)
  have HK6 := Lib.hid (HK6.out.below hBz)
  have HB9 := Lib.hid (bAfter HB8.out hBz)
  have HK8 := Lib.hid hb8
  have HW8 := Lib.hid hW8
  have HE8 : Hid (w8.heap.size + 1 = W8.heap.size) := Lib.hid (by rw [← hW8]; simp)
  clear hW8
  clear hF8 hO8 hB8 hB9 hBz hb8 HB8 HS7
  go_wp2_with fail
  rw [HW8.out]
  clear HW8
  refine (rSameAll_eq _ _ [[2], [1, 3]] [[2], [1, 3]] _ (HS1.out.up (lit2 W8 _ HE8.out [2] [1, 3] (by decide) (by decide)).2) (lit2 W8 _ HE8.out [2] [1, 3] (by decide) (by decide)).1 (bOf_true rfl)).mono ?_
  rintro e w9 ⟨rfl, hB9⟩
  have hBy := bAfter (lit2 W8 _ HE8.out [2] [1, 3] (by decide) (by decide)).2 hB9
  have HO6 := Lib.hid (HO6.out.up hBy)
  have HS2 := Lib.hid (HS2.out.up hBy)
  have HS3 := Lib.hid (HS3.out.up hBy)
  have HK6 := Lib.hid (HK6.out.below hBy)
  have HK8 := Lib.hid (HK8.out.below hBy)
  have HBA := Lib.hid (bAfter HB9.out hBy)
  clear hB9 hBy HB9 HS1
  go_wp2_with fail
  refine (rSameAll_eq _ _ [[2], [1, 3]] [[2], [1, 3]] _ (HS2.out.up (lit2 w9 _ rfl [2] [1, 3] (by decide) (by decide)).2) (lit2 w9 _ rfl [2] [1, 3] (by decide) (by decide)).1 (bOf_true rfl)).mono ?_
  rintro e wA ⟨rfl, hB9⟩
  have hBy := bAfter (lit2 w9 _ rfl [2] [1, 3] (by decide) (by decide)).2 hB9
  have HO6 := Lib.hid (HO6.out.up hBy)
  have HS3 := Lib.hid (HS3.out.up hBy)
  have HK6 := Lib.hid (HK6.out.below hBy)
  have HK8 := Lib.hid (HK8.out.below hBy)
  have HBB := Lib.hid (bAfter HBA.out hBy)
  clear hB9 hBy HBA HS2
  go_wp2_with fail
  refine (rSameAll_eq _ _ [[]] [[]] _ (HS3.out.up (lit1 wA _ rfl [] (by decide)).2) (lit1 wA _ rfl [] (by decide)).1 (bOf_true rfl)).mono ?_
  rintro e wB ⟨rfl, hB9⟩
  have hBy := bAfter (lit1 wA _ rfl [] (by decide)).2 hB9
  have HO6 := Lib.hid (HO6.out.up hBy)
  have HK6 := Lib.hid (HK6.out.below hBy)
  have HK8 := Lib.hid (HK8.out.below hBy)
  have HBC := Lib.hid (bAfter HBB.out hBy)
  clear hB9 hBy HBB HS3
  have k1 : wB.cell? ⟨w6.heap.size, 1, none⟩ = some (.slice AO6 2 cO6) := HK6.out.cell 1
  go_wp2_with fail
  refine (rSameAll_eq _ _ [[3], [5]] [[3], [5]] _ (HO6.out.up (lit2 wB _ rfl [3] [5] (by decide) (by decide)).2) (lit2 wB _ rfl [3] [5] (by decide) (by decide)).1 (bOf_true rfl)).mono ?_
  rintro e wC ⟨rfl, hB9⟩
  have hBy := bAfter (lit2 wB _ rfl [3] [5] (by decide) (by decide)).2 hB9
  have HK6 := Lib.hid (HK6.out.below hBy)
  have HK8 := Lib.hid (HK8.out.below hBy)
  have HBD := Lib.hid (bAfter HBC.out hBy)
  clear hB9 hBy HBC HO6 k1
  have k3 : wC.cell? ⟨w6.heap.size, 3, none⟩ = some (.bool false) := HK6.out.cell 3
  have m3 : wC.cell? ⟨w8.heap.size, 3, none⟩ = some (.bool true) := HK8.out.cell 3
  have m0 : wC.cell? ⟨w8.heap.size, 0, none⟩ = some (.slice AF8 0 cF8) := HK8.out.cell 0
  go_wp2_with fail
  have hB9 : Below wC.heap.size wC (((wC.alloc (.cells #[] 3)).alloc (.cells #[.slice (some ⟨wC.heap.size, 0, none⟩) 0 0] 23)).alloc (.cells #[.int .i64 1] 3)) := bAl (lit1 wC _ rfl [] (by decide)).2 _
  refine (Hits_eq _ _ [[]] [1] _ ((lit1 wC _ rfl [] (by decide)).1.al _) (lit_si _ [1] 1 _ rfl (by simp) (by decide)) (fun l hl => by rw [List.mem_singleton.1 hl]; exact fun _ h => (nomatch h)) (wfl_small (by simp)) (by decide) (bOf_false (fun h => by obtain ⟨x, _, hx⟩ := h [] (by simp); cases hx))).mono ?_
  rintro e wD ⟨rfl, hBD⟩
  have HBE := Lib.hid (bAfter HBD.out (bAfter hB9 hBD))
  clear hB9 hBD HBD HK6 HK8 k3 m3 m0
  go_wp2_with fail
  go_ret
  exact ⟨rfl, HBE.out⟩
end Go.Proofs.YtbmdfnifbimfmaaGreatDoor
