import Derived.Test.YtidaklcinddghaaA5
namespace Go.Proofs.Ytidaklcinddghaa
open Go.RowKit Go.Shelf
attribute [local go_sem] Oper.semAt_some

/-- The slice value A, n, c reads as l. -/
def Rd (W : World) (b : Nat) (A : Option Addr) (c : Nat) (l : List (Int × Int)) : Prop :=
  l.length ≤ c ∧ c ≤ maxLen ∧ (0 < l.length → ∃ off, A = some ⟨b, off, none⟩ ∧ CellsAt W encIv 2 b off l)
theorem Rd.keep {W W' : World} {b : Nat} {A : Option Addr} {c : Nat} {l : List (Int × Int)} (h : Rd W b A c l) (hb : Keep1 b W W') : Rd W' b A c l := by
  refine ⟨h.1, h.2.1, fun hl => ?_⟩
  obtain ⟨off, e, hc⟩ := h.2.2 hl
  exact ⟨off, e, hc.keep fun o => hb.cell o⟩
theorem Rd.empty {W : World} {b c : Nat} {A : Option Addr} {l : List (Int × Int)} (h : l.length = 0) (hc : c ≤ maxLen) : Rd W b A c l := ⟨by omega, hc, fun hl => by omega⟩
theorem Rd.drop {W : World} {b off c k : Nat} {A : Option Addr} {l : List (Int × Int)} (h : Rd W b (some ⟨b, off, none⟩) c l) (hA : k < l.length → A = some ⟨b, off + k * 2, none⟩) : Rd W b A (c - k) (l.drop k) := by
  have h1 := h.1
  have h2 := h.2.1
  refine ⟨by simp; omega, by simp only [maxLen] at h2 ⊢; omega, fun hl => ?_⟩
  obtain ⟨off', e, hc⟩ := h.2.2 (by simp at hl; omega)
  injection e with e
  injection e with e1 e2
  subst e2
  refine ⟨off + k * 2, hA (by simp at hl; omega), fun i x hi j u hj => ?_⟩
  rw [List.getElem?_drop] at hi
  have := hc (k + i) x hi j u hj
  rw [Nat.add_mul, ← Nat.add_assoc] at this
  exact this

set_option maxRecDepth 100000 in
set_option maxHeartbeats 2000000 in
theorem union2_in (n : Nat) (hn : 1 ≤ n) (lp Bs b : Nat) (A : Option Addr) (c : Nat) (l : List (Int × Int)) (hp : ∀ x ∈ l, Ok x) (J Jx : List { x : Int × Int // Ok x } → World → Prop)
    (W : World) (hJ : AbidesFrom W.heap.size J)
    (hY : ∀ pre x W, J pre W → pre.length < (joinL l).length → YieldAt Fence.wide (n - 1) Try.prog lp #[ivV x.1] W fun e W' =>
      (e = .returned (.bool true) ∧ J (pre ++ [x]) W' ∧ Keep1 b W W') ∨ (e = .returned (.bool false) ∧ Jx (pre ++ [x]) W'))
    (hBs : W.cell? ⟨Bs, 0, none⟩ = some (.slice A l.length c)) (hv : Rd W b A c l) (hb : b < W.heap.size) (h0 : J [] W) :
    CallsIn Fence.wide n Try.prog 47 #[.func (.yield lp) #[] #[], .pointer (some ⟨Bs, 0, none⟩)] W fun e W' => (∃ v, e = .returned v) ∧
      ((∃ ys, ys.map (·.1) = joinL l ∧ J ys W') ∨ (∃ pre, pre.map (·.1) <+: joinL l ∧ Jx pre W')) := by
  have HV := Lib.hid hv
  have HY := Lib.hid hY
  have HJ := Lib.hid hJ
  clear hv hY hJ
  refine callsIn_of_wp Try.func47 rfl trivial ?_ rfl
  simp only [Try.ntmps47, List.size_toArray, List.length_cons, List.length_nil, Nat.reduceAdd, Nat.reduceSub, Array.replicate_succ, Array.replicate_zero, List.push_toArray, List.append_toArray, List.nil_append, List.cons_append]
  gi_wp2
  gi_loopw [3] (fun r wr => ∃ (A : Option Addr) (c : Nat) (r' : List (Int × Int)) (ys : List { x : Int × Int // Ok x }), r = .slice A r'.length c ∧ Rd wr b A c r' ∧ (∀ x ∈ r', Ok x) ∧ ys.map (·.1) ++ joinL r' = joinL l ∧ J ys wr ∧ Keep1 b W wr)
    (fun r _ => match r with | .slice _ n _ => n | _ => 0)
  case atStart => exact ⟨A, c, l, [], rfl, HV.out, hp, rfl, h0, rfl⟩
  case round =>
    obtain ⟨A, c, r, ys, rfl, hR, hok, hys, hJs, hB⟩ := hrel
    have HYS := Lib.hid hys
    have HR := Lib.hid hR
    have HOK := Lib.hid hok
    clear hys hR hok
    cases r with
    | nil =>
      gi_wp2
      go_end0
      exact ⟨⟨_, rfl⟩, .inl ⟨_, by simpa [joinL] using HYS.out, hJs⟩⟩
    | cons x r =>
      obtain ⟨hc, hm, hA⟩ := HR.out
      obtain ⟨off, rfl, hcell⟩ := hA (by simp)
      have c0 : wr.cell? ⟨b, off, none⟩ = some (.int .i64 x.1) := hcell 0 x rfl 0 _ rfl
      have c1 : wr.cell? ⟨b, off + 1, none⟩ = some (.int .i64 x.2) := hcell 0 x rfl 1 _ rfl
      unfold maxLen at hm
      have HC := Lib.hid hcell
      clear hA hcell
      gi_wp2
      have hok0 : Ok x := HOK.out x (by simp)
      obtain ⟨L, hL⟩ : ∃ L, L = x :: r := ⟨_, rfl⟩
      have hpos : 1 ≤ L.length := by rw [hL]; simp
      have hj0 : joinGo x (L.drop 1) = joinL L := by rw [hL]; rfl
      rw [← hL] at HYS HOK HR HC hc ⊢
      have HL := Lib.hid hL
      have HJ0 := Lib.hid hj0
      clear hL hj0
      have hN : wr.heap.size ≤ wr.heap.size := Nat.le_refl _
      have hbN : b < wr.heap.size := hB.lt hb
      obtain ⟨N, hNe⟩ : ∃ N, N = wr.heap.size := ⟨_, rfl⟩
      have hB0 : Below N wr wr := Below.refl _ _
      have HN := Lib.hid hNe
      have hX0 : Blk (wr.alloc (.cells #[.int .i64 x.1, .int .i64 x.2] 23)) N 23 #[.int .i64 x.1, .int .i64 x.2] := by rw [hNe]; exact Blk.new _ _ _
      have hB1 : Below N wr (wr.alloc (.cells #[.int .i64 x.1, .int .i64 x.2] 23)) := by rw [hNe]; exact (Below.refl _ _).alloc (Nat.le_refl _) _
      rw [← hNe] at hbN ⊢
      clear hNe hN hB0
      obtain ⟨wo, rfl⟩ : ∃ wo : World, wo = wr := ⟨_, rfl⟩
      refine wpIn_wide.2 ?_
      go_loopw [5] (fun i wi => ∃ (k : Nat) (y : Int × Int), i = .int .i64 k ∧ 1 ≤ k ∧ k ≤ L.length ∧ Ok y ∧ joinGo y (L.drop k) = joinL L ∧ Blk wi N 23 #[.int .i64 y.1, .int .i64 y.2] ∧ Below N wo wi)
        (fun i _ => L.length - (intOf i).toNat)
      case atStart => exact ⟨1, x, rfl, by omega, hpos, hok0, HJ0.out, hX0, hB1⟩
      case round =>
        obtain ⟨k, y, rfl, hk1, hk, hoky, hjy, hX, hBi⟩ := hrel
        have HJY := Lib.hid hjy
        clear hjy
        have x0 : wr.cell? ⟨N, 0, none⟩ = some (.int .i64 y.1) := hX.cell 0
        have x1 : wr.cell? ⟨N, 1, none⟩ = some (.int .i64 y.2) := hX.cell 1
        have xf0 := hX.frozen 0
        have xf1 := hX.frozen 1
        unfold Ok at hoky
        by_cases hlt : k < L.length
        · obtain ⟨z, hz⟩ : ∃ z, L[k]? = some z := ⟨L[k], by simp [hlt]⟩
          have z0 : wr.cell? ⟨b, off + k * 2, none⟩ = some (.int .i64 z.1) := (hBi.cell hbN).trans (HC.out k z hz 0 _ rfl)
          have z1 : wr.cell? ⟨b, off + k * 2 + 1, none⟩ = some (.int .i64 z.2) := (hBi.cell hbN).trans (HC.out k z hz 1 _ rfl)
          have hokz : Ok z := HOK.out z (List.mem_of_getElem? hz)
          have HZ := Lib.hid hz
          clear hz
          unfold Ok at hokz
          have hki : (0 : Int) ≤ (k : Int) := by omega
          have hki2 : (k : Int) < (L.length : Int) := by omega
          by_cases hit : z.1 ≤ y.2 + 1
          · have hd : decide (z.1 ≤ y.2 + 1) = true := by simp [hit]
            go_wp2_with fail
            go_quiet (fail)
            go_wp2_with fail
            have hNl : N < wr.heap.size := hX.lt
            go_region_with (first
                | (go_at_call 37; refine (greater_any _).mono ?_; rintro e w2 ⟨rfl, hb2⟩; replace x1 := (hb2.cell (by exact hX.lt)).trans x1; replace z1 := (hb2.cell (by exact Nat.lt_trans hbN hX.lt)).trans z1; replace hBi := bAftH hb2 hBi (Nat.le_of_lt hX.lt) rfl rfl rfl rfl; replace hX := bk hb2 hX)
                | (go_at_call_of 38 (Value.agg #[.func (.func 48) #[] #[]]); refine (of_greater _ _ _).mono ?_; rintro e w3 ⟨rfl, hb3⟩; replace x1 := (hb3.cell (by exact hX.lt)).trans x1; replace z1 := (hb3.cell (by exact Nat.lt_trans hbN hX.lt)).trans z1; replace hBi := bAftH hb3 hBi (Nat.le_of_lt hX.lt) rfl rfl rfl rfl; replace hX := bk hb3 hX; replace xf1 := hX.frozen 1))
            all_goals
              go_wp2_with fail
              go_roundw
              case rel => exact ⟨k + 1, (y.1, max y.2 z.2), by go_num, by omega, by omega, by unfold Ok; dsimp only; omega, by rw [← HJY.out, drop_get L k z HZ.out, joinGo_hit hit], hX.set_ 1 _, hBi.setCell (Nat.le_refl _) _⟩
              case measure => simp [intOf]; omega
          · have hd : decide (z.1 ≤ y.2 + 1) = false := by simp; omega
            go_wp2_with fail
            go_quiet (fail)
            go_wp2_with fail
            have hJ1 : J ys (wr.drewN nq) := AbidesFrom.below HJ.out hJs (by rw [← HN.out]; exact bDrN hBi nq)
            have hex : joinL L = y :: joinL (L.drop k) := by rw [← HJY.out, drop_get L k z HZ.out, joinGo_miss (by omega)]
            have hlen : ys.length < (joinL l).length := by
              have := congrArg List.length HYS.out
              rw [hex] at this
              simp at this
              omega
            obtain ⟨fn, tmps, assign, body, hy, hRd⟩ := HY.out ys ⟨y, hoky⟩ _ hJ1 hlen
            dsimp only at hy
            have HEX := Lib.hid hex
            clear hex hlen
            have hkc : k ≤ c := by omega
            gi_wp2
            refine hRd.mono ?_
            rintro e W3 (⟨rfl, hJ3, hk3⟩ | ⟨rfl, hJx3⟩)
            · gi_wp2
              have hBW : Keep1 b wo W3 := (Keep1.of_below (bDrN hBi nq) hbN).trans hk3
              refine ⟨⟨_, c - k, L.drop k, ys ++ [⟨y, hoky⟩], by rw [List.length_drop], (HR.out.drop (k := k) (by intro _; rfl)).keep hBW, fun x hx => HOK.out x (List.mem_of_mem_drop hx), ?_, hJ3, hB.trans hBW⟩, ?_⟩
              · rw [← HYS.out, HEX.out]; simp
              · rw [← HL.out]; dsimp only; omega
            · gi_wp2
              refine bodyPost_ret (results_none rfl _ _ _) rfl ?_
              refine ⟨⟨_, rfl⟩, .inr ⟨_, ?_, hJx3⟩⟩
              rw [← HYS.out, HEX.out, List.map_append]
              exact List.prefix_append_right_inj _ |>.2 ⟨joinL (L.drop k), rfl⟩
        · have hke : k = L.length := by omega
          have hex0 : joinL L = y :: joinL (L.drop k) := by rw [← HJY.out, hke, List.drop_length]; rfl
          have HEX0 := Lib.hid hex0
          have hge : ¬ (k : Int) < (L.length : Int) := by omega
          have hd : decide (k < L.length) = false := by simp; omega
          clear hex0 hke
          go_wp2_with fail
          go_quiet (fail)
          go_wp2_with fail
          have hJ1 : J ys (wr.drewN nq) := AbidesFrom.below HJ.out hJs (by rw [← HN.out]; exact bDrN hBi nq)
          have hex : joinL L = y :: joinL (L.drop k) := by exact HEX0.out
          have hlen : ys.length < (joinL l).length := by
            have := congrArg List.length HYS.out
            rw [hex] at this
            simp at this
            omega
          obtain ⟨fn, tmps, assign, body, hy, hRd⟩ := HY.out ys ⟨y, hoky⟩ _ hJ1 hlen
          dsimp only at hy
          have HEX := Lib.hid hex
          clear hex hlen
          have hkc : k ≤ c := by omega
          gi_wp2
          all_goals
            refine hRd.mono ?_
            rintro e W3 (⟨rfl, hJ3, hk3⟩ | ⟨rfl, hJx3⟩)
            · gi_wp2
              have hBW : Keep1 b wo W3 := (Keep1.of_below (bDrN hBi nq) hbN).trans hk3
              refine ⟨⟨_, _, L.drop k, ys ++ [⟨y, hoky⟩], by rw [List.length_drop], Rd.empty (by rw [List.length_drop]; omega) (by simp only [maxLen]; omega), fun x hx => HOK.out x (List.mem_of_mem_drop hx), ?_, hJ3, hB.trans hBW⟩, ?_⟩
              · rw [← HYS.out, HEX.out]; simp
              · rw [← HL.out]; dsimp only; omega
            · gi_wp2
              refine bodyPost_ret (results_none rfl _ _ _) rfl ?_
              refine ⟨⟨_, rfl⟩, .inr ⟨_, ?_, hJx3⟩⟩
              rw [← HYS.out, HEX.out, List.map_append]
              exact List.prefix_append_right_inj _ |>.2 ⟨joinL (L.drop k), rfl⟩

theorem union2_seq (Bs : Nat) (v : Value) (l : List (Int × Int)) (hp : ∀ x ∈ l, Ok x) (w : World) (hBs : w.cell? ⟨Bs, 0, none⟩ = some v) (hlt : Bs < w.heap.size) (hv : Sl w w.heap.size encIv 2 v l) :
    ∃ b, b < w.heap.size ∧ (∀ a n c, v = .slice (some a) n c → 0 < l.length → b = a.block) ∧ (l.length = 0 → b = Bs) ∧ SeqP 47 #[.pointer (some ⟨Bs, 0, none⟩)] Ok b (joinL l) w := by
  obtain ⟨A, c, rfl, hc, hm, hA⟩ := hv
  by_cases h0 : 0 < l.length
  · obtain ⟨b, off, rfl, hb, hcell⟩ := hA h0
    exact ⟨b, hb, fun a n c' h _ => by injection h with h; injection h with h; rw [← h], fun h => by omega, fun n hn lp J Jx W hW hJ _ hY h0 => union2_in n hn lp Bs b _ c l hp J Jx W hJ hY ((hW.cell hlt).trans hBs) ⟨hc, hm, fun _ => ⟨off, rfl, hcell.keep fun o => hW.cell hb⟩⟩ (Nat.lt_of_lt_of_le hb hW.size) h0⟩
  · exact ⟨Bs, hlt, fun a n c' _ h => absurd h h0, fun _ => rfl, fun n hn lp J Jx W hW hJ _ hY h1 => union2_in n hn lp Bs Bs A c l hp J Jx W hJ hY ((hW.cell hlt).trans hBs) ⟨hc, hm, fun h => absurd h h0⟩ (Nat.lt_of_lt_of_le hlt hW.size) h1⟩
end Go.Proofs.Ytidaklcinddghaa
