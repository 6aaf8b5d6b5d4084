/- HittingOrder: the walk. -/
import Derived.Test.YtbmdfnifbimfmaaGreatDoorL3
namespace Go.Proofs.YtbmdfnifbimfmaaGreatDoor
open Go.RowKit Go.Shelf

/-- What Minimal, All and Hits answer does not hang on order and repetition. -/
theorem minOk_turn {L L' M M' : List (List Int)} {c c' : Int} (h : SameM L L') (h1 : MinOk L M c) (h2 : MinOk L' M' c') : M = M' ∧ c = c' := by
  refine minOk_same (L := L') ?_ h2
  rcases h1 with ⟨v, m, e⟩ | ⟨v, m, e⟩
  · exact .inl ⟨h.valid.1 v, h.min m, e⟩
  · exact .inr ⟨fun g => v (h.valid.2 g), m, e⟩
theorem allOk_turn {L L' M M' : List (List Int)} {most c c' : Int} (hv : ValidAll L ↔ ValidAll L') (hm : ∀ T, MHS L T ↔ MHS L' T) (h1 : AllOk L most M c) (h2 : AllOk L' most M' c') : M = M' ∧ c = c' := by
  refine all_same (L := L') (most := most) ?_ h2
  have ho : okMost L most ↔ okMost L' most := by unfold okMost; rw [hv]
  rcases h1 with ⟨a, b, d⟩ | ⟨a, b, d, e⟩ | ⟨a, b, d, P, p1, p2, p3⟩
  · exact .inl ⟨fun g => a (ho.2 g), b, d⟩
  · exact .inr (.inl ⟨ho.1 a, ⟨b.1, fun T => (b.2 T).trans (hm T)⟩, d, e⟩)
  · exact .inr (.inr ⟨ho.1 a, b, d, P, p1, fun T hT => (hm T).1 (p2 T hT), p3⟩)
theorem SameM.mhs_iff {L L' : List (List Int)} (h : SameM L L') (T : List Int) : MHS L T ↔ MHS L' T := ⟨h.mhs, h.symm.mhs⟩
theorem min_valid {L M : List (List Int)} (hv : ValidAll L) (hM : IsMin L M) : ValidAll M := fun l hl => hv l ((hM.2 l).1 hl).1

theorem two_ne {o a b c : Option Nat} (h : o = a ∨ o = b) (ha : a ≠ c) (hb : b ≠ c) : o ≠ c := fun e => by
  rcases h with h | h
  · exact ha (h.symm.trans e)
  · exact hb (h.symm.trans e)
theorem turn_at (a : Int) (n : Nat) (h : 0 < n) (hn : n ≤ 1000) : ∃ i : Nat, i < n ∧ wrap64 ((IntKind.u64.wrap a).tmod n) = (i : Int) := by
  have h0 : 0 ≤ IntKind.u64.wrap a := by rw [IntKind.wrap_u64]; omega
  have e : (IntKind.u64.wrap a).tmod n = IntKind.u64.wrap a % n := Int.tmod_eq_emod_of_nonneg h0
  have h1 : 0 ≤ IntKind.u64.wrap a % n := Int.emod_nonneg _ (by omega)
  have h2 : IntKind.u64.wrap a % n < n := Int.emod_lt_of_pos _ (by omega)
  refine ⟨(IntKind.u64.wrap a % n).toNat, by omega, ?_⟩
  rw [e, IntWalk.wrap64_in _ (by omega)]
  omega

set_option maxRecDepth 100000 in
set_option maxHeartbeats 8000000 in
theorem order_any (v0 : Value) (L : List (List Int)) (at_ : Int) (v2 : Value) (s : List Int) (W : World) (h0 : SS W v0 L) (hw0 : wfS L) (ha : wfI at_) (h2 : SI W v2 s) (hw2 : ∀ x ∈ s, wfI x) (hT : Tab W) :
    Calls Tryz.prog 6 #[v0, .int .i64 at_, v2] W fun e W' => e = .returned (.bool true) ∧ Below W.heap.size W W' := by
  obtain ⟨A0, c0, rfl, hc0, hm0, hA0⟩ := h0.form
  obtain ⟨A2, c2, rfl⟩ := SI.slice_form h2
  have hsl := h2.len_le
  unfold maxLen at hsl hm0
  have H0 := Lib.hid h0
  have HA0 := Lib.hid hA0
  have HW0 := Lib.hid hw0
  have H2 := Lib.hid h2
  have HW2 := Lib.hid hw2
  have HT := Lib.hid hT
  have HAT := Lib.hid ha
  clear h0 hT hw0 h2 hw2 hA0 ha
  go_enter Tryz.func6, Tryz.ntmps6
  go_wp2_with fail
  refine (sane_any W HT.out).mono ?_
  rintro e w1 ⟨rfl, hB1⟩
  go_wp2_with fail
  cases hf : bOf (Tame L) with
  | false =>
    refine (tame_eq _ L _ (H0.out.up hB1) hf).mono ?_
    rintro e w2 ⟨rfl, rfl⟩
    clear hf
    go_wp2_with fail
    go_ret
    exact ⟨rfl, hB1⟩
  | true =>
    have HF := Lib.hid (bOf_iff.1 hf)
    refine (tame_eq _ L _ (H0.out.up hB1) hf).mono ?_
    rintro e w2 ⟨rfl, rfl⟩
    clear hf
    have hl12 : L.length ≤ 12 := HF.out.1.1
    have HLL : Hid (∀ l ∈ L, l.length ≤ 1000000) := Lib.hid fun l hl => Nat.le_trans (HF.out.1.2 l hl) (by decide)
    by_cases hnil : L.length = 0
    · have q : ((L.length : Int) == 0) = true := by simp [hnil]
      go_wp2_with fail
      go_ret
      exact ⟨rfl, hB1⟩
    · have q : ((L.length : Int) == 0) = false := beq_eq_false_iff_ne.2 (by omega)
      by_cases h30 : 30 < s.length
      · have q : decide ((30 : Int) < (s.length : Int)) = true := by simp; omega
        go_wp2_with fail
        go_ret
        exact ⟨rfl, hB1⟩
      · have q : decide ((30 : Int) < (s.length : Int)) = false := by simp; omega
        obtain ⟨i, hi, hiv⟩ := turn_at at_ L.length (by omega) (by omega)
        have HIV := Lib.hid hiv
        obtain ⟨x, hx⟩ := get_some hi
        have HSAME := Lib.hid (turned_same hx)
        obtain ⟨b1, o1, rfl, hb1, hcell⟩ := HA0.out (by omega)
        obtain ⟨ux, d0, hux⟩ := hcell i x hx
        obtain ⟨Ax, cx, rfl⟩ := SI.slice_form hux
        have d1 := (hB1.cell (p := ⟨b1, o1 + i, none⟩) hb1).trans d0
        have HUX := Lib.hid (S1.up hux hB1)
        obtain ⟨ps, hps, hsp, hse⟩ := H0.out.up hB1
        have hpl : ps.length = L.length := by rw [← hps, List.length_map]
        have hsp' := hsp
        rw [← hpl] at hsp'
        obtain ⟨Ad, hrun1, hS1⟩ := cut_from uS zS hsp' (n := i) (by omega)
        obtain ⟨hrun2, hS2⟩ := cut_pre uS zS hsp' (n := i) (by omega)
        rw [hpl] at hrun1 hrun2 hS1
        obtain ⟨dr, hdr⟩ : ∃ dr, ps.drop i = dr := ⟨_, rfl⟩
        obtain ⟨tk, htk⟩ : ∃ tk, ps.take i = tk := ⟨_, rfl⟩
        have hdl : dr.length ≤ 12 ∧ dr.length = L.length - i := by rw [← hdr, List.length_drop]; omega
        have htl : tk.length ≤ 12 ∧ tk.length = i := by rw [← htk, List.length_take]; omega
        have hdm : ∀ p ∈ dr, p ∈ ps := fun p hp => by rw [← hdr] at hp; exact List.mem_of_mem_drop hp
        have htm : ∀ p ∈ tk, p ∈ ps := fun p hp => by rw [← htk] at hp; exact List.mem_of_mem_take hp
        have hmm : (dr ++ tk ++ [(Value.slice Ax x.length cx, x)]).map (·.2) = L.drop i ++ L.take i ++ [x] := by rw [← htk, ← hdr, List.map_append, List.map_append, List.map_drop, List.map_take, hps]; rfl
        rw [hdr] at hS1
        rw [htk] at hS2
        have HS1 := Lib.hid hS1
        have HS2 := Lib.hid hS2
        have HMM := Lib.hid hmm
        have HSE := Lib.hid hse
        have HDM := Lib.hid hdm
        have HTM := Lib.hid htm
        have HON : Hid (∀ x ∈ dr, ∀ u ∈ enc1 (fun p : Value × List Int => p.1) x, u.oneCell' = true) := Lib.hid fun x hx => one_pairs hse x (hdm x hx)
        have HON2 : Hid (∀ x ∈ tk, ∀ u ∈ enc1 (fun p : Value × List Int => p.1) x, u.oneCell' = true) := Lib.hid fun x hx => one_pairs hse x (htm x hx)
        have hdl1 := hdl.1
        have htl1 := htl.1
        have HDL := Lib.hid hdl.2
        have HTL := Lib.hid htl.2
        have HB1 := Lib.hid hB1
        have hD0 : w1.drew.cell? ⟨b1, o1 + i, none⟩ = some (.slice Ax x.length cx) := d1
        have HD : Hid (∀ W', Below w1.heap.size w1 W' → W'.cell? ⟨b1, o1 + i, none⟩ = some (.slice Ax x.length cx)) := Lib.hid fun W' hW' => (hW'.cell (World.block_lt_of_cell? w1 _ d1)).trans d1
        have r1 : (0 : Int) ≤ (i : Int) := by omega
        have r2 : (i : Int) < (L.length : Int) := by omega
        have r3 : (i : Int) ≤ (L.length : Int) := by omega
        clear hiv hx hcell d0 hux hps hsp hse hsp' hS1 hS2 hdr htk hdl htl hdm htm hmm d1 hB1 hpl HA0
        obtain ⟨LT, hLT⟩ : ∃ LT, L.drop i ++ L.take i ++ [x] = LT := ⟨_, rfl⟩
        rw [hLT] at HSAME HMM
        have hltn : LT.length = L.length + 1 := by rw [← hLT]; simp; omega
        have HLTN := Lib.hid hltn
        clear hLT hltn
        go_upto_region 6 with fail
        rw [HIV.out]
        go_cut [8] from 41 to 56 (fun v8 wx => ∃ A c, v8 = .slice A LT.length c ∧ Hid (SS wx v8 LT ∧ Below w1.heap.size w1 wx))
        case first =>
          obtain ⟨i0, hi0, hz0, hz1, hz2⟩ := info_parts infoS
          have HM0 : Hid (((w1.alloc (.cells #[.slice Ax x.length cx] 23)).alloc (.cells #[] 23)).ownsRow w1.heap.size 23 1 (.slice (some ⟨w1.heap.size + 1, 0, none⟩) 0 0) 0 []) := Lib.hid (by
            have h := World.ownsRow_made (base := w1.heap.size) (e := 23) (size := 1) (w1.alloc (.cells #[.slice Ax x.length cx] 23)) #[] 0 (by simp) (by simp [maxLen]) rfl
            rwa [World.size_alloc] at h)
          go_region_held3 (fun W => W.cell? ⟨b1, o1 + i, none⟩ = some (.slice Ax x.length cx)) (first | with_reducible exact hD0 | with_reducible exact HD.out _ (bAl (Below.refl _ _) _).drew | with_reducible exact HD.out _ (bAl (bAl (Below.refl _ _) _) _).drew | with_reducible exact HD.out _ hB6 | with_reducible exact HD.out _ (hB6.alloc hB6.size _) | with_reducible exact HD.out _ hB7 | with_reducible exact HD.out _ (hB7.alloc hB7.size _) | with_reducible exact HD.out _ hB8)
            (first
              | (have _n0 := HO7; have _n1 := HL7; clear _n0; clear _n1; refine step_append_sl _ (enc1 fun p : Value × List Int => p.1) rfl (.tmp 49) (.tmp 54) 22 rfl w1.heap.size 23 i0 (.slice none 0 0) 1 24 Tryz.underlying22 hi0 hz0 hz1 hz2 rfl (by decide) _ _ _ rfl HO7.out _ _ [(Value.slice Ax x.length cx, x)] (fun _ => rfl) rfl (own_S1 (f := fun p : Value × List Int => p.1) (l := [(Value.slice Ax x.length cx, x)]) HL7.out) (fun x hx u hu => by (rw [List.mem_singleton.1 hx] at hu; rw [List.mem_singleton.1 hu]; rfl)) (by ((try simp only [maxLen, List.length_cons, List.length_nil]); omega)) (by ((try simp only [List.length_cons, List.length_nil]); omega)) (hB7.size) ?_;
                 intro v8 w8 hown8 hgrow8 hat8;
                 have hB8 : Below w1.heap.size w1 w8 := hB7.grown hgrow8 hB7.size (fun k e => (HO7.out.lt k e).1);
                 simp only [flat1] at hown8;
                 have HO8 := Lib.hid hown8;
                 clear hgrow8 hown8 hat8)
              | (have _n0 := HO7; clear _n0; refine step_append_sl _ (enc1 fun p : Value × List Int => p.1) rfl (.tmp 49) (.tmp 54) 22 rfl w1.heap.size 23 i0 (.slice none 0 0) 1 24 Tryz.underlying22 hi0 hz0 hz1 hz2 rfl (by decide) _ _ _ rfl (HO7.out.alloc _) _ _ [(Value.slice Ax x.length cx, x)] (fun _ => rfl) rfl (S1.lit w7 _ rfl _ _ _ [(Value.slice Ax x.length cx, x)] 1 rfl rfl (by simp [maxLen])) (fun x hx u hu => by (rw [List.mem_singleton.1 hx] at hu; rw [List.mem_singleton.1 hu]; rfl)) (by ((try simp only [maxLen, List.length_cons, List.length_nil]); omega)) (by ((try simp only [List.length_cons, List.length_nil]); omega)) (by (have := hB7.size; simp; omega)) ?_;
                 intro v8 w8 hown8 hgrow8 hat8;
                 have hB8 : Below w1.heap.size w1 w8 := (hB7.alloc hB7.size _).grown hgrow8 (by (have := hB7.size; simp; omega)) (fun k e => (HO7.out.lt k e).1);
                 simp only [flat1] at hown8;
                 have HO8 := Lib.hid hown8;
                 clear hgrow8 hown8 hat8)
              | (have _n0 := HO6; have _n1 := HL6; clear _n0; clear _n1; refine step_append_sl _ (enc1 fun p : Value × List Int => p.1) rfl (.tmp 45) (.tmp 48) 22 rfl w1.heap.size 23 i0 (.slice none 0 0) 1 24 Tryz.underlying22 hi0 hz0 hz1 hz2 rfl (by decide) _ _ _ rfl HO6.out _ _ tk (fun _ => rfl) rfl (S1.up HS2.out hB6) HON2.out (by ((try simp only [maxLen, List.length_cons, List.length_nil]); omega)) (by ((try simp only [List.length_cons, List.length_nil]); omega)) (hB6.size) ?_;
                 intro v7 w7 hown7 hgrow7 hat7;
                 have hB7 : Below w1.heap.size w1 w7 := hB6.grown hgrow7 hB6.size (fun k e => (HO6.out.lt k e).1);
                 have HL7 := Lib.hid (HL6.out.kept hgrow7 (.inr fun e => HN6.out e.symm));
                 simp only [flat1] at hown7;
                 have HO7 := Lib.hid hown7;
                 clear hgrow7 hown7 hat7)
              | (have _n0 := HO6; clear _n0; refine step_append_sl _ (enc1 fun p : Value × List Int => p.1) rfl (.tmp 45) (.tmp 48) 22 rfl w1.heap.size 23 i0 (.slice none 0 0) 1 24 Tryz.underlying22 hi0 hz0 hz1 hz2 rfl (by decide) _ _ _ rfl HO6.out _ _ tk (fun _ => rfl) rfl (S1.up HS2.out hB6) HON2.out (by ((try simp only [maxLen, List.length_cons, List.length_nil]); omega)) (by ((try simp only [List.length_cons, List.length_nil]); omega)) (hB6.size) ?_;
                 intro v7 w7 hown7 hgrow7 hat7;
                 have hB7 : Below w1.heap.size w1 w7 := hB6.grown hgrow7 hB6.size (fun k e => (HO6.out.lt k e).1);
                 simp only [flat1] at hown7;
                 have HO7 := Lib.hid hown7;
                 clear hgrow7 hown7 hat7)
              | (have _n0 := HO6; clear _n0; refine step_append_sl _ (enc1 fun p : Value × List Int => p.1) rfl (.tmp 45) (.tmp 48) 22 rfl w1.heap.size 23 i0 (.slice none 0 0) 1 24 Tryz.underlying22 hi0 hz0 hz1 hz2 rfl (by decide) _ _ _ rfl (HO6.out.alloc _) _ _ tk (fun _ => rfl) rfl ((S1.up HS2.out hB6).al _) HON2.out (by ((try simp only [maxLen, List.length_cons, List.length_nil]); omega)) (by ((try simp only [List.length_cons, List.length_nil]); omega)) (by (have := hB6.size; simp; omega)) ?_;
                 intro v7 w7 hown7 hgrow7 hat7;
                 have hB7 : Below w1.heap.size w1 w7 := (hB6.alloc hB6.size _).grown hgrow7 (by (have := hB6.size; simp; omega)) (fun k e => (HO6.out.lt k e).1);
                 have HL7 := Lib.hid ((ownLit1 w6 23 (Value.slice Ax x.length cx) hB6.size).kept hgrow7 (.inr fun e => absurd (HO6.out.lt _ e.symm).2 (Nat.lt_irrefl _)));
                 simp only [flat1] at hown7;
                 have HO7 := Lib.hid hown7;
                 clear hgrow7 hown7 hat7)
              | (refine step_append_sl _ (enc1 fun p : Value × List Int => p.1) rfl (.tmp 41) (.tmp 44) 22 rfl w1.heap.size 23 i0 (.slice none 0 0) 1 24 Tryz.underlying22 hi0 hz0 hz1 hz2 rfl (by decide) _ 0 [] rfl (World.ownsRow_made w1 #[] 0 (Nat.le_refl _) (by simp [maxLen]) rfl).drew _ _ dr (fun _ => rfl) rfl (S1.drew (S1.al HS1.out _)) HON.out (by ((try simp only [maxLen, List.length_cons, List.length_nil]); omega)) (by ((try simp only [List.length_cons, List.length_nil]); omega)) (by simp) ?_;
                 intro v6 w6 hown6 hgrow6 hat6;
                 have hB6 : Below w1.heap.size w1 w6 := (bAl (Below.refl _ w1) _).drew.grown hgrow6 (by simp) (fun k e => Nat.le_of_eq (Option.some.inj e));
                 simp only [Nat.zero_add, List.nil_append, flat1] at hown6;
                 have HO6 := Lib.hid hown6;
                 clear hgrow6 hown6 hat6)
              | (refine step_append_sl _ (enc1 fun p : Value × List Int => p.1) rfl (.tmp 41) (.tmp 44) 22 rfl w1.heap.size 23 i0 (.slice none 0 0) 1 24 Tryz.underlying22 hi0 hz0 hz1 hz2 rfl (by decide) _ 0 [] rfl ((World.ownsRow_made w1 #[] 0 (Nat.le_refl _) (by simp [maxLen]) rfl).alloc _).drew _ _ dr (fun _ => rfl) rfl (S1.drew (S1.al (S1.al HS1.out _) _)) HON.out (by ((try simp only [maxLen, List.length_cons, List.length_nil]); omega)) (by ((try simp only [List.length_cons, List.length_nil]); omega)) (by (simp; omega)) ?_;
                 intro v6 w6 hown6 hgrow6 hat6;
                 have hB6 : Below w1.heap.size w1 w6 := (bAl (bAl (Below.refl _ w1) _) _).drew.grown hgrow6 (by (simp; omega)) (fun k e => Nat.le_of_eq (Option.some.inj e));
                 have hL0 := ownLit1 (base := w1.heap.size) (w1.alloc (.cells #[] 23)) 23 (Value.slice Ax x.length cx) (by simp);
                 rw [World.size_alloc] at hL0;
                 have HL6 := Lib.hid (hL0.drew.kept hgrow6 (.inr fun e => absurd (Option.some.inj (show some (w1.heap.size + 1) = some w1.heap.size from e)) (by omega)));
                 clear hL0;
                 have HN6 : Hid (v6.ownBlock ≠ some (w1.heap.size + 1)) := Lib.hid (two_ne hat6 (fun e => absurd (Option.some.inj (show some w1.heap.size = some (w1.heap.size + 1) from e)) (by omega)) (by ((try simp); (try omega))));
                 simp only [Nat.zero_add, List.nil_append, flat1] at hown6;
                 have HO6 := Lib.hid hown6;
                 clear hgrow6 hown6 hat6)
              | (refine step_append_sl _ (enc1 fun p : Value × List Int => p.1) rfl (.tmp 41) (.tmp 44) 22 rfl w1.heap.size 23 i0 (.slice none 0 0) 1 24 Tryz.underlying22 hi0 hz0 hz1 hz2 rfl (by decide) _ 0 [] rfl HM0.out.drew _ _ dr (fun _ => rfl) rfl (S1.drew (S1.al (S1.al HS1.out _) _)) HON.out (by ((try simp only [maxLen, List.length_cons, List.length_nil]); omega)) (by ((try simp only [List.length_cons, List.length_nil]); omega)) (by (simp; omega)) ?_;
                 intro v6 w6 hown6 hgrow6 hat6;
                 have hB6 : Below w1.heap.size w1 w6 := (bAl (bAl (Below.refl _ w1) _) _).drew.grown hgrow6 (by (simp; omega)) (fun k e => by (have h := Option.some.inj (show some (w1.heap.size + 1) = some k from e); omega));
                 have HL6 := Lib.hid (((ownLit1 (base := w1.heap.size) w1 23 (Value.slice Ax x.length cx) (Nat.le_refl _)).alloc _).drew.kept hgrow6 (.inr fun e => absurd (Option.some.inj (show some w1.heap.size = some (w1.heap.size + 1) from e)) (by omega)));
                 have HN6 : Hid (v6.ownBlock ≠ some w1.heap.size) := Lib.hid (two_ne hat6 (fun e => absurd (Option.some.inj (show some (w1.heap.size + 1) = some w1.heap.size from e)) (by omega)) (by ((try simp); (try omega))));
                 simp only [Nat.zero_add, List.nil_append, flat1] at hown6;
                 have HO6 := Lib.hid hown6;
                 clear hgrow6 hown6 hat6))
          all_goals
            go_wp2_with fail
            go_meet
            case rel =>
              obtain ⟨A8, c8, rfl⟩ := own_form HO8.out
              have hn := congrArg List.length HMM.out
              simp only [List.length_map, List.length_append, List.length_cons, List.length_nil] at hn
              have hrow : w8.ownsRow w1.heap.size 23 1 (.slice A8 LT.length c8) (dr ++ tk ++ [(Value.slice Ax x.length cx, x)]).length ((dr ++ tk ++ [(Value.slice Ax x.length cx, x)]).map (·.1)) := by
                have h := HO8.out
                rw [show (dr ++ tk ++ [(Value.slice Ax x.length cx, x)]).length = LT.length by simp only [List.length_append, List.length_cons, List.length_nil]; omega, ← hn]
                simpa [Nat.add_assoc] using h
              have hn' : dr.length + tk.length + [(Value.slice Ax x.length cx, x)].length = LT.length := by simp only [List.length_cons, List.length_nil]; omega
              rw [hn']
              refine ⟨A8, c8, rfl, Lib.hid ⟨⟨_, HMM.out, own_S1 hrow, fun p hp => ?_⟩, hB8⟩⟩
              rcases List.mem_append.1 hp with hp | hp
              · rcases List.mem_append.1 hp with hp | hp
                · exact (HSE.out p (HDM.out p hp)).up hB8
                · exact (HSE.out p (HTM.out p hp)).up hB8
              · rw [List.mem_singleton.1 hp]; exact S1.up HUX.out hB8
        case rest =>
          obtain ⟨A8, c8, rfl, HX⟩ := hcut
          have HBX := Lib.hid (bAfter HB1.out HX.out.2)
          have HL8 := Lib.hid HX.out.1
          have hln : LT.length ≤ 13 := by have := HLTN.out; omega
          have HLLT : Hid (∀ l ∈ LT, l.length ≤ 1000000) := Lib.hid fun l hl => HLL.out l ((HSAME.out l).2 hl)
          have HWT : Hid (wfS LT) := Lib.hid fun l hl => HW0.out l ((HSAME.out l).2 hl)
          clear HX HS1 HS2 HMM HSE HDM HTM HON HON2 HDL HTL hD0 HD HUX HLTN
          go_wp2_with fail
          refine (Minimal_c _ L _ (H0.out.up HBX.out) (by omega) HLL.out (HT.out.up HBX.out)).mono ?_
          rintro e w9 ⟨v9, M, c9, rfl, hs9, hm9, hml, hB9⟩
          have HBa := Lib.hid (bAfter HBX.out hB9)
          have HS9 := Lib.hid hs9
          have HM9 := Lib.hid hm9
          have HL9 := Lib.hid (HL8.out.up hB9)
          clear hs9 hm9 hB9 HBX HL8
          go_wp2_with fail
          refine (Minimal_c _ LT _ HL9.out (by omega) HLLT.out (HT.out.up HBa.out)).mono ?_
          rintro e w10 ⟨v10, M', c10, rfl, hs10, hm10, _, hB10⟩
          obtain ⟨e1, e2⟩ := minOk_turn HSAME.out HM9.out hm10
          subst e1 e2
          have HBb := Lib.hid (bAfter HBa.out hB10)
          have HS10 := Lib.hid hs10
          have HS9' := Lib.hid (HS9.out.up hB10)
          have HL10 := Lib.hid (HL9.out.up hB10)
          clear hs10 hm10 hB10 HBa HL9 HS9
          go_wp2_with fail
          refine (All_any _ L 256 _ (H0.out.up HBb.out) (by omega) (HT.out.up HBb.out)).mono ?_
          rintro e w11 ⟨v11, N, c11, rfl, hs11, hB11, hm11⟩
          have HBc := Lib.hid (bAfter HBb.out hB11)
          have HS11 := Lib.hid hs11
          have HN := Lib.hid hm11
          have HS9 := Lib.hid (HS9'.out.up hB11)
          have HS10' := Lib.hid (HS10.out.up hB11)
          have HL11 := Lib.hid (HL10.out.up hB11)
          clear hs11 hm11 hB11 HBb HS9' HS10 HL10
          go_wp2_with fail
          refine (All_any _ LT 256 _ HL11.out (by omega) (HT.out.up HBc.out)).mono ?_
          rintro e w12 ⟨v12, N', c12, rfl, hs12, hB12, hm12⟩
          obtain ⟨e1, e2⟩ := allOk_turn HSAME.out.valid HSAME.out.mhs_iff HN.out hm12
          subst e1 e2
          have HBd := Lib.hid (bAfter HBc.out hB12)
          have HS12 := Lib.hid hs12
          have HS11' := Lib.hid (HS11.out.up hB12)
          have HS9' := Lib.hid (HS9.out.up hB12)
          have HS10 := Lib.hid (HS10'.out.up hB12)
          have HL12 := Lib.hid (HL11.out.up hB12)
          clear hs12 hm12 hB12 HBc HS9 HS10' HS11 HL11
          go_wp2_with fail
          refine (rSameAll_eq _ _ M M _ HS9'.out HS10.out (bOf_true rfl)).mono ?_
          rintro e w13 ⟨rfl, hB13⟩
          have HBe := Lib.hid (bAfter HBd.out hB13)
          have HS9 := Lib.hid (HS9'.out.up hB13)
          have HS11 := Lib.hid (HS11'.out.up hB13)
          have HS12' := Lib.hid (HS12.out.up hB13)
          have HL13 := Lib.hid (HL12.out.up hB13)
          have q9 : (c9 != c9) = false := by simp
          have q11 : (c11 != c11) = false := by simp
          clear hB13 HBd HS9' HS10 HS11' HS12 HL12
          go_wp2_with fail
          refine (rSameAll_eq _ _ N N _ HS11.out HS12'.out (bOf_true rfl)).mono ?_
          rintro e w14 ⟨rfl, hB14⟩
          have HBf := Lib.hid (bAfter HBe.out hB14)
          have HS9' := Lib.hid (HS9.out.up hB14)
          have HS11' := Lib.hid (HS11.out.up hB14)
          have HL14 := Lib.hid (HL13.out.up hB14)
          clear hB14 HBe HS9 HS11 HS12' HL13
          obtain ⟨b, hb⟩ : ∃ b, bOf (∀ l ∈ L, Meet s l) = b := ⟨_, rfl⟩
          have HB := Lib.hid hb
          have HBT : Hid (bOf (∀ l ∈ LT, Meet s l) = b) := Lib.hid (by rw [← hb]; exact bOf_congr (HSAME.out.hits s).symm)
          have qb : (b != b) = false := by simp
          have qb2 : (b == b) = true := by simp
          clear hb
          go_wp2_with fail
          refine (Hits_eq _ _ L s _ (H0.out.up HBf.out) (S1.up H2.out HBf.out) HW0.out HW2.out (by omega) HB.out).mono ?_
          rintro e w15 ⟨rfl, hB15⟩
          have HBg := Lib.hid (bAfter HBf.out hB15)
          have HS9 := Lib.hid (HS9'.out.up hB15)
          have HS11 := Lib.hid (HS11'.out.up hB15)
          have HL15 := Lib.hid (HL14.out.up hB15)
          clear hB15 HBf HS9' HS11' HL14
          go_wp2_with fail
          refine (Hits_eq _ _ LT s _ HL15.out (S1.up H2.out HBg.out) HWT.out HW2.out (by omega) HBT.out).mono ?_
          rintro e w16 ⟨rfl, hB16⟩
          have HBh := Lib.hid (bAfter HBg.out hB16)
          have HS9' := Lib.hid (HS9.out.up hB16)
          have HS11' := Lib.hid (HS11.out.up hB16)
          clear hB16 HBg HS9 HS11 HL15
          rcases HM9.out with ⟨hva, hmin, hc⟩ | ⟨hno, _, hc⟩
          · have HVA := Lib.hid hva
            have HMIN := Lib.hid hmin
            subst hc
            clear hva hmin HM9 q9
            go_wp2_with fail
            refine (All_any _ M 256 _ HS9'.out (by omega) (HT.out.up HBh.out)).mono ?_
            rintro e w17 ⟨v17, K, c17, rfl, hs17, hB17, hm17⟩
            obtain ⟨e1, e2⟩ := allOk_turn (L := L) (L' := M) ⟨fun h => min_valid h HMIN.out, fun _ => HVA.out⟩ (fun T => (mhs_min HVA.out HMIN.out T).symm) HN.out hm17
            subst e1 e2
            have HBi := Lib.hid (bAfter HBh.out hB17)
            have HS17 := Lib.hid hs17
            have HS11 := Lib.hid (HS11'.out.up hB17)
            have HS9 := Lib.hid (HS9'.out.up hB17)
            have q12 : (c11 == c11) = true := by simp
            clear hs17 hB17 hm17 HBh HS9' HS11' q11
            go_wp2_with fail
            refine (rSameAll_eq _ _ N N _ HS17.out HS11.out (bOf_true rfl)).mono ?_
            rintro e w18 ⟨rfl, hB18⟩
            have HBj := Lib.hid (bAfter HBi.out hB18)
            have HS9' := Lib.hid (HS9.out.up hB18)
            have HWM : Hid (wfS M) := Lib.hid fun l hl => HW0.out l ((HMIN.out.2 l).1 hl).1
            have HBM : Hid (bOf (∀ l ∈ M, Meet s l) = b) := Lib.hid (by rw [← HB.out]; exact bOf_congr (min_hits HVA.out HMIN.out s))
            clear hB18 HBi HS9 HS17 HS11
            go_wp2_with fail
            refine (Hits_eq _ _ M s _ HS9'.out (S1.up H2.out HBj.out) HWM.out HW2.out (by omega) HBM.out).mono ?_
            rintro e w19 ⟨rfl, hB19⟩
            have HBk := Lib.hid (bAfter HBj.out hB19)
            clear hB19 HBj
            go_wp2_with fail
            refine (Hits_eq _ _ L s _ (H0.out.up HBk.out) (S1.up H2.out HBk.out) HW0.out HW2.out (by omega) HB.out).mono ?_
            rintro e w20 ⟨rfl, hB20⟩
            have HBl := Lib.hid (bAfter HBk.out hB20)
            clear hB20 HBk
            go_wp2_with fail
            go_ret
            exact ⟨rfl, HBl.out⟩
          · subst hc
            clear q9 HM9
            go_wp2_with fail
            go_ret
            exact ⟨rfl, HBh.out⟩
end Go.Proofs.YtbmdfnifbimfmaaGreatDoor
