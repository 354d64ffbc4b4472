/- The walk for the statement CellTurns. -/
import Derived.Test.YtcdapjfaekamkaaClw
namespace Go.Proofs.Ytcdapjfaekamkaa
open Go.RowKit
open Go.NB (Rd Dk Kp Stp Off Dis val Ce footC)

theorem set_big (w : World) (base q p : Nat) (F : Nat → Prop) (c : Ce) (a : Option Addr) (n cp : Nat) (bs : List UInt8) (hC : HasC w base q p F c) (hr : NB.RdB w a n cp bs) (h : 43 < n) :
    Calls Try.prog 11 #[.pointer (some ⟨q, 0, none⟩), .slice a n cp] w fun e w' => e = .returned (.int .i64 13) ∧ w' = w := by
  have hbd := Rd.bound hr
  have h43i : (43 : Int) < (n : Int) := by omega
  go_enter Try.func11, Try.ntmps11
  go_wp2_with fail
  go_ret
  exact ⟨rfl, rfl⟩
theorem byte_at {w : World} {a : Option Addr} {n c : Nat} {bs : List UInt8} (h : NB.RdB w a n c bs) (k : Nat) (hk : k < n) :
    ∃ b o, w.cell? ⟨b, o + k, none⟩ = some (.int .u8 ((bs.getD k 0).toNat : Int)) ∧ a = some ⟨b, o, none⟩ := by
  obtain ⟨b, o, e, hc⟩ := NB.RdB.at h (by omega)
  exact ⟨b, o, hc k hk, e⟩
set_option maxRecDepth 100000 in
set_option maxHeartbeats 4000000 in
theorem law_turns (w : World) (a : Option Addr) (n c0 : Nat) (l : List (List UInt8)) (a' : Option Addr) (n' c' : Nat) (t' : List UInt8) (h : NB.RdBB w a n c0 l) (h' : NB.RdB w a' n' c' t') :
    Calls Try.prog 3 #[.slice a n c0, .slice a' n' c'] w fun e w' => e = .returned (.bool true) ∧ Below w.heap.size w w' := by
  have hbd := NB.RdBB.bound h
  have hbd' := Rd.bound h'
  by_cases h30 : 30 < n
  · have h30i : (30 : Int) < (n : Int) := by omega
    go_enter Try.func3, Try.ntmps3
    go_wp2_with (first
      | (go_at_call 8; refine (awake_any _).mono ?_; rintro e w1 ⟨rfl, hb1⟩))
    go_ret
    exact ⟨rfl, hb1⟩
  have h30i : ¬ (30 : Int) < (n : Int) := by omega
  by_cases hnn : n' < n
  · have hnni : (n' : Int) < (n : Int) := by omega
    go_enter Try.func3, Try.ntmps3
    go_wp2_with (first
      | (go_at_call 8; refine (awake_any _).mono ?_; rintro e w1 ⟨rfl, hb1⟩))
    go_ret
    exact ⟨rfl, hb1⟩
  have hnni : ¬ (n' : Int) < (n : Int) := by omega
  have hs0 := sits_fresh 2 5 (by omega)
  have hop0 : openL 2 (Dk.fresh 5).l = zeroC 2 := hs0.op.symm
  have HS0 := Go.Lib.hid hs0
  have HO0 := Go.Lib.hid hop0
  clear hs0 hop0
  go_enter Try.func3, Try.ntmps3
  go_wp2_with (first
    | (go_at_call 8; refine (awake_any _).mono ?_; rintro e w1 ⟨rfl, hb1⟩)
    | (go_at_call 9; refine (dnew_any _ 5 (by omega) (by omega)).mono ?_; rintro e w2 ⟨p, G, rfl, hD2, hb2⟩)
    | (go_at_call 10; refine (open_calm _ _ p G _ 2 hD2 HS0.out.calm HS0.out.len).mono ?_; rw [HO0.out]; rintro e w3 ⟨q, F, rfl, hC3, hD3, hFG, hq, hF, hb3⟩; have B2 := bel hb1 hb2 hb1.size; have B3 := bel B2 hb3 B2.size))
  have hbase : w.heap.size ≤ w1.heap.size := hb1.size
  clear hD2 hb2 hF hb3 B2 hq
  go_loopw [8, 10] (fun x i wr => ∃ (m q : Nat) (F G : Nat → Prop) (c : Ce) (D : Dk), m ≤ n ∧ x = .pointer (some ⟨q, 0, none⟩) ∧ i = .int .i64 m ∧ HasC wr w1.heap.size q p F c ∧ HasD wr w1.heap.size p G D ∧ Dis F G ∧ Sits 2 c D ∧ c.turn = m ∧ c.top = m ∧ Below w.heap.size w wr) (fun _ i _ => n - (intOf i).toNat)
  case atStart => exact ⟨0, q, F, G, zeroC 2, Dk.fresh 5, by omega, rfl, rfl, hC3, hD3, hFG, HS0.out, rfl, rfl, B3⟩
  case round =>
    clear hC3 hD3 hFG B3 HS0 HO0
    obtain ⟨m, q, F, G, c, D, hm, rfl, rfl, hC, hD, hFG, hS, htn, htp, hB⟩ := hrel
    by_cases hlt : m < n
    · obtain ⟨b3, o3, rfl, hc3⟩ := NB.RdBB.pos h (by omega)
      obtain ⟨ai, ni, ci, q3w, hri0⟩ := hc3 m hlt
      clear hc3
      generalize l.getD m [] = t at *
      have hti := NB.RdB.size hri0
      have hki : (m : Int) < (n : Int) := by omega
      have hHS := Go.Lib.hid hS
      have hat := hS.at_.1
      have hwt : D.waits.length ≤ 100000 := by rw [hS.calm.waits]; exact Nat.zero_le _
      have q3r := (Below.cell hB (World.block_lt_of_cell? _ _ q3w)).trans q3w
      by_cases h43 : 43 < ni
      · have h43i : (43 : Int) < (ni : Int) := by omega
        go_wp2_with fail
        go_at_call 11
        refine (set_big _ _ q p F c _ _ _ t hC (Rd.below hri0 hB) h43).mono ?_
        rintro e w5 ⟨rfl, e2⟩
        subst w5
        go_wp2_with fail
        go_ret
        exact ⟨rfl, hB⟩
      · have h43i : ¬ (43 : Int) < (ni : Int) := by omega
        have hsN := sits_next hS t (by omega) (by omega)
        obtain ⟨M, hM⟩ : ∃ M, m + 1 = M := ⟨_, rfl⟩
        have hct : (nextC c t).turn = M := by show c.top + 1 = M; omega
        have hctop : (nextC c t).top = M := by show c.top + 1 = M; omega
        have hcb : (nextC c t).b = t := rfl
        generalize hcN : nextC c t = cN at *
        generalize hDN : nextD c D t = DN at *
        have hopN : openL 2 DN.l = cN := hsN.op.symm
        have HOP := Go.Lib.hid hopN
        have HSN := Go.Lib.hid hsN
        have HS := hHS
        have hw1 : IntKind.u64.wrap (m : Int) = (m : Int) := by rw [IntKind.wrap_u64]; omega
        have hMi : (m : Int) + 1 = (M : Int) := by omega
        have hw2 : IntKind.u64.wrap (M : Int) = (M : Int) := by rw [IntKind.wrap_u64]; omega
        have hw3 : IntKind.i64.wrap (M : Int) = (M : Int) := by rw [IntKind.wrap_i64]; omega
        clear hS hopN hsN
        obtain ⟨b6, o6, q6, rfl⟩ := byte_at h' m (by omega)
        generalize t'.getD m 0 = y at *
        go_wp2_with fail
        refine NB.wp_region_t [5] (by kernel_rfl) ?_
        have hC1 := hC.below (Below.refl _ wr).drew
        have hD1 := hD.below (Below.refl _ wr).drew
        have B1 : Below w.heap.size w wr.drew := hB.drew
        generalize wr.drew = w2 at *
        have q3 := (Below.cell B1 (World.block_lt_of_cell? _ _ q3w)).trans q3w
        have hof : Off (fun k => F k ∨ G k) w2 ai ni ci t := Off.old hri0 B1 (fun k hk => hk.elim (fun h => Nat.le_trans hbase (hC1.foot k h).1) (fun h => Nat.le_trans hbase (hD1.foot k h).1))
        have hsz2 : w1.heap.size ≤ w2.heap.size := hC1.base_le
        refine NB.t_p 0 rfl (by kernel_rfl) (fun K hK => ?_); go_simp; refine hK _ ?_; clear hK K
        refine NB.t_p 1 rfl (by kernel_rfl) (fun K hK => ?_); go_simp; refine hK _ ?_; clear hK K
        refine NB.t_p 2 rfl (by kernel_rfl) (fun K hK => ?_); go_simp; refine hK _ ?_; clear hK K
        refine NB.t_p 3 rfl (by kernel_rfl) (fun K hK => ?_); go_simp; refine hK _ ?_; clear hK K
        refine NB.t_r 4 [5, 6, 7, 8, 9, 10, 11, 12, 13, 14, 15, 16, 17, 18, 19, 20, 21, 22, 23, 24, 25] rfl (by kernel_rfl) (by kernel_rfl) rfl _ (fun w' hw' => NB.run_op_load rfl rfl Try.underlying23 rfl (q3) hw') (fun K hK => ?_); go_simp; refine hK _ ?_; clear hK K
        refine NB.t_w 5 rfl (by kernel_rfl) (by kernel_rfl) rfl (fun Q' hK => ?_)
        go_wp2_with (first | (go_at_call 11; refine (set_calm _ _ q p F G 2 c D _ _ _ t hC1 hD1 hFG hof (by omega) HS.out (by omega) (by omega)).mono ?_; rw [hcN, hDN]; rintro e w3 ⟨rfl, F3, G3, hC3, hD3, hFG3, hS3⟩))
        have B3 := bel B1 (hS3.low B1.size (fun k hk => hk.elim (fun h => Nat.le_trans hbase (hC1.foot k h).1) (fun h => Nat.le_trans hbase (hD1.foot k h).1))) (Nat.le_refl _)
        have q33 := (Below.cell B3 (World.block_lt_of_cell? _ _ q3w)).trans q3w
        have hri3 := Rd.below hri0 B3
        clear hC1 hD1 B1 hof hS3 q3
        refine NB.t_p 6 rfl (by kernel_rfl) (fun K hK => ?_); go_simp; refine hK _ ?_; clear hK K
        refine NB.t_p 7 rfl (by kernel_rfl) (fun K hK => ?_); go_simp; refine hK _ ?_; clear hK K
        refine NB.t_p 8 rfl (by kernel_rfl) (fun K hK => ?_); go_simp; refine hK _ ?_; clear hK K
        refine NB.t_p 10 rfl (by kernel_rfl) (fun K hK => ?_); go_simp; refine hK _ ?_; clear hK K
        refine NB.t_p 11 rfl (by kernel_rfl) (fun K hK => ?_); go_simp; refine hK _ ?_; clear hK K
        refine NB.t_p 12 rfl (by kernel_rfl) (fun K hK => ?_); go_simp; refine hK _ ?_; clear hK K
        refine NB.t_e 9 rfl (by kernel_rfl) (by kernel_rfl) (fun K hK => ?_); unfold NB.tmoves; go_simp; refine (turn_any _ _ _ _ _ _ hC3).mono ?_; rw [hct]; rintro e w' ⟨rfl, e2⟩; subst w'; refine ⟨_, rfl, Below.refl _ _, hK _ _ ?_⟩; clear hK K
        refine NB.t_p 13 rfl (by kernel_rfl) (fun K hK => ?_); go_simp; refine hK _ ?_; clear hK K
        refine NB.t_p 14 rfl (by kernel_rfl) (fun K hK => ?_); go_simp; refine hK _ ?_; clear hK K
        refine NB.t_p 15 rfl (by kernel_rfl) (fun K hK => ?_); go_simp; refine hK _ ?_; clear hK K
        refine NB.t_p 16 rfl (by kernel_rfl) (fun K hK => ?_); go_simp; refine hK _ ?_; clear hK K
        refine NB.t_p 19 rfl (by kernel_rfl) (fun K hK => ?_); go_simp; refine hK _ ?_; clear hK K
        refine NB.t_p 20 rfl (by kernel_rfl) (fun K hK => ?_); go_simp; refine hK _ ?_; clear hK K
        refine NB.t_p 21 rfl (by kernel_rfl) (fun K hK => ?_); go_simp; refine hK _ ?_; clear hK K
        refine NB.t_r 22 [23, 24, 25] rfl (by kernel_rfl) (by kernel_rfl) rfl _ (fun w' hw' => NB.run_op_load rfl rfl Try.underlying23 rfl (q33) hw') (fun K hK => ?_); go_simp; refine hK _ ?_; clear hK K
        refine NB.t_r 23 [24, 25] rfl (by kernel_rfl) (by kernel_rfl) rfl _ (fun w' hw' => NB.run_op_conv_str Try.underlying23 Try.underlying5 Try.underlying9 rfl rfl (Rd.below (hri3) hw')) (fun K hK => ?_); go_simp; refine hK _ ?_; clear hK K
        refine NB.t_e 17 rfl (by kernel_rfl) (by kernel_rfl) (fun K hK => ?_); unfold NB.tmoves; go_simp; refine (get_any _ _ _ _ _ _ hC3 (by rw [hcb]; omega)).mono ?_; rw [hcb]; rintro e w4 ⟨a4, k4, rfl, ho4, hb4⟩; refine ⟨_, rfl, hb4, hK _ _ ?_⟩; clear hK K
        have hr4 := (Off.fresh (F := fun _ => False) ho4 (fun _ h => h.elim)).rd
        refine NB.t_r 18 [24, 25] rfl (by kernel_rfl) (by kernel_rfl) rfl _ (fun w' hw' => NB.run_op_conv_str Try.underlying23 Try.underlying5 Try.underlying9 rfl rfl (Rd.below (hr4) hw')) (fun K hK => ?_); go_simp; refine hK _ ?_; clear hK K
        refine NB.t_p 24 rfl (by kernel_rfl) (fun K hK => ?_); go_simp; refine hK _ ?_; clear hK K
        refine NB.t_p 25 rfl (by kernel_rfl) (fun K hK => ?_); go_simp; refine hK _ ?_; clear hK K
        refine NB.t_end (by kernel_rfl) ?_
        have hC4 := hC3.below hb4
        have hD4 := hD3.below hb4
        have B4 := bel B3 hb4 B3.size
        have q64 := (Below.cell B4 (World.block_lt_of_cell? _ _ q6)).trans q6
        clear hC3 hD3 B3 q33 hri3 hb4
        have hend : ∀ (w9 : World) (q9 : Nat) (F9 G9 : Nat → Prop), HasC w9 w1.heap.size q9 p F9 cN → HasD w9 w1.heap.size p G9 DN → Dis F9 G9 → Below w.heap.size w w9 → (∃ (m q : Nat) (F G : Nat → Prop) (c : Ce) (D : Dk), m ≤ n ∧ Value.pointer (some ⟨q9, 0, none⟩) = Value.pointer (some ⟨q, 0, none⟩) ∧ Value.int .i64 (M : Int) = .int .i64 m ∧ HasC w9 w1.heap.size q p F c ∧ HasD w9 w1.heap.size p G D ∧ Dis F G ∧ Sits 2 c D ∧ c.turn = m ∧ c.top = m ∧ Below w.heap.size w w9) ∧ n - (intOf (Value.int .i64 (M : Int))).toNat < n - (intOf (Value.int .i64 (m : Int))).toNat :=
          fun w9 q9 F9 G9 k1 k2 k3 k4 => ⟨⟨M, q9, F9, G9, cN, DN, by omega, rfl, rfl, k1, k2, k3, HSN.out, hct, hctop, k4⟩, by simp [intOf]; omega⟩
        cases hp : (bits .and .u8 (y.toNat : Int) 1 == 1)
        case false =>
          go_wp2_with fail
          exact hend _ _ _ _ hC4 hD4 hFG3 B4
        case true =>
          go_wp2_with fail
          go_at_call 10
          refine (open_calm _ _ p G3 DN 2 hD4 HSN.out.calm HSN.out.len).mono ?_
          rw [HOP.out]
          rintro e w5 ⟨q5, F5, rfl, hC5, hD5, hFG5, hq5, hF5, hb5⟩
          have B5 := bel B4 hb5 B4.size
          clear hC4 hD4 hFG3 B4 q64
          go_wp2_with fail
          refine NB.wp_region_m (by kernel_rfl) ?_
          have hC6 := hC5.below (Below.refl _ w5).drew
          have hD6 := hD5.below (Below.refl _ w5).drew
          have B6 : Below w.heap.size w w5.drew := B5.drew
          clear hC5 hD5 B5
          generalize w5.drew = w6 at *
          have q36 := (Below.cell B6 (World.block_lt_of_cell? _ _ q3w)).trans q3w
          have hri6 := Rd.below hri0 B6
          refine NB.any_p 0 rfl (by kernel_rfl) (fun K hK => ?_); go_simp; refine hK _ ?_; clear hK K
          refine NB.any_p 1 rfl (by kernel_rfl) (fun K hK => ?_); go_simp; refine hK _ ?_; clear hK K
          refine NB.any_p 2 rfl (by kernel_rfl) (fun K hK => ?_); go_simp; refine hK _ ?_; clear hK K
          refine NB.any_p 3 rfl (by kernel_rfl) (fun K hK => ?_); go_simp; refine hK _ ?_; clear hK K
          refine NB.any_p 5 rfl (by kernel_rfl) (fun K hK => ?_); go_simp; refine hK _ ?_; clear hK K
          refine NB.any_p 6 rfl (by kernel_rfl) (fun K hK => ?_); go_simp; refine hK _ ?_; clear hK K
          refine NB.any_p 7 rfl (by kernel_rfl) (fun K hK => ?_); go_simp; refine hK _ ?_; clear hK K
          refine NB.any_e 4 rfl (by kernel_rfl) (fun K hK => ?_); unfold NB.moves; go_simp; refine (turn_any _ _ _ _ _ _ hC6).mono ?_; rw [hct]; rintro e w' ⟨rfl, e2⟩; subst w'; refine ⟨_, rfl, Below.refl _ _, hK _ _ ?_⟩; clear hK K
          refine NB.any_p 8 rfl (by kernel_rfl) (fun K hK => ?_); go_simp; refine hK _ ?_; clear hK K
          refine NB.any_p 9 rfl (by kernel_rfl) (fun K hK => ?_); go_simp; refine hK _ ?_; clear hK K
          refine NB.any_p 10 rfl (by kernel_rfl) (fun K hK => ?_); go_simp; refine hK _ ?_; clear hK K
          refine NB.any_p 11 rfl (by kernel_rfl) (fun K hK => ?_); go_simp; refine hK _ ?_; clear hK K
          refine NB.any_p 14 rfl (by kernel_rfl) (fun K hK => ?_); go_simp; refine hK _ ?_; clear hK K
          refine NB.any_p 15 rfl (by kernel_rfl) (fun K hK => ?_); go_simp; refine hK _ ?_; clear hK K
          refine NB.any_p 16 rfl (by kernel_rfl) (fun K hK => ?_); go_simp; refine hK _ ?_; clear hK K
          refine NB.any_r 17 rfl (by kernel_rfl) rfl _ (fun w' hw' => NB.run_op_load rfl rfl Try.underlying23 rfl (q36) hw') (fun K hK => ?_); go_simp; refine hK _ ?_; clear hK K
          refine NB.any_r 18 rfl (by kernel_rfl) rfl _ (fun w' hw' => NB.run_op_conv_str Try.underlying23 Try.underlying5 Try.underlying9 rfl rfl (Rd.below (hri6) hw')) (fun K hK => ?_); go_simp; refine hK _ ?_; clear hK K
          refine NB.any_e 12 rfl (by kernel_rfl) (fun K hK => ?_); unfold NB.moves; go_simp; refine (get_any _ _ _ _ _ _ hC6 (by rw [hcb]; omega)).mono ?_; rw [hcb]; rintro e w7 ⟨a7, k7, rfl, ho7, hb7⟩; refine ⟨_, rfl, hb7, hK _ _ ?_⟩; clear hK K
          have hr7 := (Off.fresh (F := fun _ => False) ho7 (fun _ h => h.elim)).rd
          refine NB.any_r 13 rfl (by kernel_rfl) rfl _ (fun w' hw' => NB.run_op_conv_str Try.underlying23 Try.underlying5 Try.underlying9 rfl rfl (Rd.below (hr7) hw')) (fun K hK => ?_); go_simp; refine hK _ ?_; clear hK K
          refine NB.any_p 19 rfl (by kernel_rfl) (fun K hK => ?_); go_simp; refine hK _ ?_; clear hK K
          refine NB.any_p 20 rfl (by kernel_rfl) (fun K hK => ?_); go_simp; refine hK _ ?_; clear hK K
          refine NB.any_end (by kernel_rfl) ?_
          go_wp2_with fail
          exact hend _ _ _ _ (hC6.below hb7) (hD6.below hb7) hFG5 (bel B6 hb7 B6.size)
    · obtain rfl : m = n := by omega
      go_wp2_with fail
      go_ret
      exact ⟨rfl, hB⟩
end Go.Proofs.Ytcdapjfaekamkaa
