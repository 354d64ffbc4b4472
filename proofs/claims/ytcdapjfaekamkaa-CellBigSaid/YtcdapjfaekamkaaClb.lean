/- The walk for the statement CellBig. -/
import Derived.Test.YtcdapjfaekamkaaClw
namespace Go.Proofs.Ytcdapjfaekamkaa
open Go.RowKit
open Go.NB (Rd Dk Kp Stp Off Dis val Ce footC)

def z43 : List UInt8 := List.replicate 43 0
theorem z43_len : z43.length = 43 := by decide
theorem made_43 : (madeCells #[.int .u8 0] 43).toList = (z43.map NB.u8v) := by kernel_rfl

set_option maxRecDepth 100000 in
set_option maxHeartbeats 4000000 in
theorem law_big (w : World) (a : Option Addr) (n c : Nat) (t : List UInt8) (a' : Option Addr) (n' c' : Nat) (t' : List UInt8) (h : NB.RdB w a n c t) (h' : NB.RdB w a' n' c' t') :
    Calls Try.prog 4 #[.slice a n c, .slice a' n' c'] w fun e w' => e = .returned (.bool true) ∧ Below w.heap.size w w' := by
  obtain ⟨i, hi, hz, hzs, hby⟩ := slTB.hi
  have hsz := NB.RdB.size h
  have hsz' := NB.RdB.size h'
  by_cases h43 : 43 < n
  · have h43i : (43 : Int) < (n : Int) := by omega
    go_enter Try.func4, Try.ntmps4
    go_wp2_with (first
      | (go_at_call 8; refine (awake_any _).mono ?_; rintro e w1 ⟨rfl, hb1⟩))
    go_ret
    exact ⟨rfl, hb1⟩
  have h43i : ¬ (43 : Int) < (n : Int) := by omega
  by_cases h44 : n' < 44
  · have h44i : (n' : Int) < 44 := by omega
    go_enter Try.func4, Try.ntmps4
    go_wp2_with (first
      | (go_at_call 8; refine (awake_any _).mono ?_; rintro e w1 ⟨rfl, hb1⟩))
    go_ret
    exact ⟨rfl, hb1⟩
  have h44i : ¬ (n' : Int) < 44 := by omega
  by_cases h200 : 200 < n'
  · have h200i : (200 : Int) < (n' : Int) := by omega
    go_enter Try.func4, Try.ntmps4
    go_wp2_with (first
      | (go_at_call 8; refine (awake_any _).mono ?_; rintro e w1 ⟨rfl, hb1⟩))
    go_ret
    exact ⟨rfl, hb1⟩
  have h200i : ¬ (200 : Int) < (n' : Int) := by omega
  have hs0 := sits_fresh 0 2 (by omega)
  have hs1 := sits_next hs0 t (by omega) (by simp [zeroC])
  have hcb : (nextC (zeroC 0) t).b = t := rfl
  have hct : (nextC (zeroC 0) t).turn = 1 := rfl
  have hctop : (nextC (zeroC 0) t).top = 1 := rfl
  have hc2 : (nextC (nextC (zeroC 0) t) z43).b = z43 := rfl
  have hop0 : openL 0 (Dk.fresh 2).l = zeroC 0 := hs0.op.symm
  have hbig : (nextC (zeroC 0) t).set (nextD (zeroC 0) (Dk.fresh 2) t) laidL t' = ((nextC (zeroC 0) t, nextD (zeroC 0) (Dk.fresh 2) t), 13) := by
    simp [Ce.set, show 43 < t'.length by omega]
  have hwt : (nextD (zeroC 0) (Dk.fresh 2) t).waits = [] := hs1.calm.waits
  have hat1 : (nextC (zeroC 0) t).at_ = 0 := rfl
  generalize hC1 : nextC (zeroC 0) t = C1 at *
  generalize hD1 : nextD (zeroC 0) (Dk.fresh 2) t = D1 at *
  have HS0 := Go.Lib.hid hs0
  have HS1 := Go.Lib.hid hs1
  have HO0 := Go.Lib.hid hop0
  have HB := Go.Lib.hid hbig
  clear hs0 hs1 hop0 hbig
  go_enter Try.func4, Try.ntmps4
  go_wp2_with (first
    | (go_at_call 8; refine (awake_any _).mono ?_; rintro e w1 ⟨rfl, hb1⟩)
    | (go_at_call 9; refine (dnew_any _ 2 (by omega) (by omega)).mono ?_; rintro e w2 ⟨p, G, rfl, hD2, hb2⟩)
    | (go_at_call 10; refine (open_calm _ _ p G _ 0 hD2 HS0.out.calm HS0.out.len).mono ?_; rw [HO0.out]; rintro e w3 ⟨q, F, rfl, hC3, hD3, hFG, hq, hF, hb3⟩; have B2 := bel hb1 hb2 hb1.size; have B3 := bel B2 hb3 B2.size; have hFGl : ∀ k, F k ∨ G k → w1.heap.size ≤ k := fun k hk => hk.elim (fun h => (hC3.foot k h).1) (fun h => (hD3.foot k h).1); have hofa : Off (fun k => F k ∨ G k) w3 a n c t := Off.old h B3 (fun k hk => Nat.le_trans hb1.size (hFGl k hk)); have hofb : Off (fun k => F k ∨ G k) w3 a' n' c' t' := Off.old h' B3 (fun k hk => Nat.le_trans hb1.size (hFGl k hk))))
  go_at_call 11
  refine (set_calm _ _ q p F G 0 (zeroC 0) (Dk.fresh 2) _ _ _ t hC3 hD3 hFG hofa (by omega) HS0.out (by omega) (by simp [zeroC])).mono ?_
  rw [hC1, hD1]
  rintro e w4 ⟨rfl, F3, G3, hC4, hD4, hFG3, hS4⟩
  have B4 := bel B3 (hS4.low (Nat.le_trans hb1.size (Nat.le_trans hb2.size hb3.size)) (fun k hk => Nat.le_trans hb1.size (hFGl k hk))) (Nat.le_refl _)
  have hofa4 := hofa.step hS4
  have hofb4 := hofb.step hS4
  clear hC3 hD3 hofa hofb hFG hF hq hFGl hS4 hb3 B3 B2 hb2
  go_wp2_with fail
  go_at_call 11
  refine (set_any _ _ q p F3 G3 C1 D1 _ _ _ t' hC4 hD4 hFG3 hofb4 (by omega) (by rw [hat1]; omega) (by omega) (by rw [hwt]; exact Nat.zero_le _)).mono ?_
  rw [HB.out]
  rintro e w5 ⟨rfl, F4, G4, hC5, hD5, hFG4, hS5⟩
  replace hC5 : HasC w5 w1.heap.size q p F4 C1 := hC5
  replace hD5 : HasD w5 w1.heap.size p G4 D1 := hD5
  have hlow : w1.heap.size ≤ w4.heap.size := hC4.base_le
  have hl3 : ∀ k, F3 k ∨ G3 k → w1.heap.size ≤ k := fun k hk => hk.elim (fun h => (hC4.foot k h).1) (fun h => (hD4.foot k h).1)
  have B5 := bel B4 (hS5.low (Nat.le_trans hb1.size hlow) (fun k hk => Nat.le_trans hb1.size (hl3 k hk))) (Nat.le_refl _)
  have hofa5 := hofa4.step hS5
  clear hC4 hD4 hFG3 hofa4 hofb4 hS5 B4 hlow hl3
  go_wp2_with (first
    | (refine wpList_make_full w5 rfl (.const (.int .i64 43)) (.const (.int .i64 43)) 23 rfl w5.heap.size 5 i (.int .u8 0) 1 slTB.ht hi hz hzs .i64 .i64 43 43 43 rfl rfl rfl rfl (by rw [hby]; omega) (by unfold maxLen; omega) (Nat.le_refl _) ?_; intro w6 ho6 hg6))
  have hb6 : Below w5.heap.size w5 w6 := (Below.refl _ w5).grown hg6 (Nat.le_refl _) (by rintro k hk; cases hk)
  have hr6 : w6.heap[w5.heap.size]? = some (.cells (z43.map NB.u8v).toArray 5 (0, 0)) := by
    have := row_full ho6
    rw [show (Value.int IntKind.u8 0).cells = #[.int .u8 0] from rfl, Nat.mul_one, made_43] at this
    exact this
  have B6 := bel B5 hb6 B5.size
  have hz6 : Off (fun k => F4 k ∨ G4 k) w6 (some ⟨w5.heap.size, 0, none⟩) 43 43 z43 := ⟨NB.rdB_row hr6 z43_len (by unfold maxLen; omega), fun k o e _ hf => by
    cases e
    rcases hf with hf | hf
    · have := (hC5.foot _ hf).2; omega
    · have := (hD5.foot _ hf).2; omega⟩
  have hC6 := hC5.below hb6
  have hD6 := hD5.below hb6
  have ht6 := (hofa5.below hb6).rd
  clear hC5 hD5 hofa5 B5 hr6 ho6 hg6 hb6
  refine NB.wp_region_t [18] (by kernel_rfl) ?_
  have hC8 := hC6.below (Below.refl _ w6).drew
  have hD8 := hD6.below (Below.refl _ w6).drew
  have hz8 := hz6.below (Below.refl _ w6).drew
  have ht8 := Rd.below ht6 (Below.refl _ w6).drew
  have B8 : Below w.heap.size w w6.drew := B6.drew
  clear hC6 hD6 hz6 ht6 B6
  generalize w6.drew = w8 at *
  refine NB.t_p 0 rfl (by kernel_rfl) (fun K hK => ?_); go_simp; refine hK _ ?_; clear hK K
  refine NB.t_p 1 rfl (by kernel_rfl) (fun K hK => ?_); go_simp; refine hK _ ?_; clear hK K
  refine NB.t_p 2 rfl (by kernel_rfl) (fun K hK => ?_); go_simp; refine hK _ ?_; clear hK K
  refine NB.t_p 3 rfl (by kernel_rfl) (fun K hK => ?_); go_simp; refine hK _ ?_; clear hK K
  refine NB.t_p 6 rfl (by kernel_rfl) (fun K hK => ?_); go_simp; refine hK _ ?_; clear hK K
  refine NB.t_r 7 [8, 9, 10, 11, 12, 13, 14, 15, 16, 17, 18, 19, 20, 21, 22, 23, 24, 25, 26, 27] rfl (by kernel_rfl) (by kernel_rfl) rfl _ (fun w' hw' => NB.run_op_conv_str Try.underlying23 Try.underlying5 Try.underlying9 rfl rfl (Rd.below (ht8) hw')) (fun K hK => ?_); go_simp; refine hK _ ?_; clear hK K
  refine NB.t_e 4 rfl (by kernel_rfl) (by kernel_rfl) (fun K hK => ?_); unfold NB.tmoves; go_simp; refine (get_any _ _ _ _ _ _ hC8 (by rw [hcb]; omega)).mono ?_; rw [hcb]; rintro e w9 ⟨a9, k9, rfl, ho9, hb9⟩; refine ⟨_, rfl, hb9, hK _ _ ?_⟩; clear hK K
  have hr9 := (Off.fresh (F := fun _ => False) ho9 (fun _ h => h.elim)).rd
  have hC9 := hC8.below hb9
  have hD9 := hD8.below hb9
  have hz9 := hz8.below hb9
  have B9 := bel B8 hb9 B8.size
  clear hC8 hD8 hz8 ht8 B8
  refine NB.t_r 5 [8, 9, 10, 11, 12, 13, 14, 15, 16, 17, 18, 19, 20, 21, 22, 23, 24, 25, 26, 27] rfl (by kernel_rfl) (by kernel_rfl) rfl _ (fun w' hw' => NB.run_op_conv_str Try.underlying23 Try.underlying5 Try.underlying9 rfl rfl (Rd.below (hr9) hw')) (fun K hK => ?_); go_simp; refine hK _ ?_; clear hK K
  refine NB.t_p 8 rfl (by kernel_rfl) (fun K hK => ?_); go_simp; refine hK _ ?_; clear hK K
  refine NB.t_p 9 rfl (by kernel_rfl) (fun K hK => ?_); go_simp; refine hK _ ?_; clear hK K
  refine NB.t_p 10 rfl (by kernel_rfl) (fun K hK => ?_); go_simp; refine hK _ ?_; clear hK K
  refine NB.t_p 11 rfl (by kernel_rfl) (fun K hK => ?_); go_simp; refine hK _ ?_; clear hK K
  refine NB.t_e 12 rfl (by kernel_rfl) (by kernel_rfl) (fun K hK => ?_); unfold NB.tmoves; go_simp; refine (turn_any _ _ _ _ _ _ hC9).mono ?_; rw [hct]; rintro e w' ⟨rfl, e2⟩; subst w'; refine ⟨_, rfl, Below.refl _ _, hK _ _ ?_⟩; clear hK K
  refine NB.t_p 13 rfl (by kernel_rfl) (fun K hK => ?_); go_simp; refine hK _ ?_; clear hK K
  refine NB.t_p 14 rfl (by kernel_rfl) (fun K hK => ?_); go_simp; refine hK _ ?_; clear hK K
  refine NB.t_p 15 rfl (by kernel_rfl) (fun K hK => ?_); go_simp; refine hK _ ?_; clear hK K
  refine NB.t_p 16 rfl (by kernel_rfl) (fun K hK => ?_); go_simp; refine hK _ ?_; clear hK K
  refine NB.t_p 17 rfl (by kernel_rfl) (fun K hK => ?_); go_simp; refine hK _ ?_; clear hK K
  refine NB.t_w 18 rfl (by kernel_rfl) (by kernel_rfl) rfl (fun Q' hK => ?_)
  go_wp2_with (first | (go_at_call 11; refine (set_calm _ _ q p F4 G4 0 C1 D1 _ _ _ _ hC9 hD9 hFG4 hz9 (by omega) HS1.out (by omega) (by omega)).mono ?_; rintro e w10 ⟨rfl, F5, G5, hC10, hD10, hFG5, hS10⟩))
  refine NB.t_p 19 rfl (by kernel_rfl) (fun K hK => ?_); go_simp; refine hK _ ?_; clear hK K
  refine NB.t_p 20 rfl (by kernel_rfl) (fun K hK => ?_); go_simp; refine hK _ ?_; clear hK K
  refine NB.t_p 21 rfl (by kernel_rfl) (fun K hK => ?_); go_simp; refine hK _ ?_; clear hK K
  refine NB.t_p 22 rfl (by kernel_rfl) (fun K hK => ?_); go_simp; refine hK _ ?_; clear hK K
  refine NB.t_e 23 rfl (by kernel_rfl) (by kernel_rfl) (fun K hK => ?_); unfold NB.tmoves; go_simp; refine (get_any _ _ _ _ _ _ hC10 (by rw [hc2, z43_len]; omega)).mono ?_; rw [hc2]; rintro e w11 ⟨a11, k11, rfl, ho11, hb11⟩; rw [z43_len]; refine ⟨_, rfl, hb11, hK _ _ ?_⟩; clear hK K
  refine NB.t_p 24 rfl (by kernel_rfl) (fun K hK => ?_); go_simp; refine hK _ ?_; clear hK K
  refine NB.t_p 25 rfl (by kernel_rfl) (fun K hK => ?_); go_simp; refine hK _ ?_; clear hK K
  refine NB.t_p 26 rfl (by kernel_rfl) (fun K hK => ?_); go_simp; refine hK _ ?_; clear hK K
  refine NB.t_p 27 rfl (by kernel_rfl) (fun K hK => ?_); go_simp; refine hK _ ?_; clear hK K
  refine NB.t_end (by kernel_rfl) ?_
  go_wp2_with fail
  go_ret
  refine ⟨rfl, ?_⟩
  have hl4 : ∀ k, F4 k ∨ G4 k → w1.heap.size ≤ k := fun k hk => hk.elim (fun h => (hC9.foot k h).1) (fun h => (hD9.foot k h).1)
  have B10 := bel B9 (hS10.low B9.size (fun k hk => Nat.le_trans hb1.size (hl4 k hk))) (Nat.le_refl _)
  exact bel B10 hb11 B10.size
end Go.Proofs.Ytcdapjfaekamkaa
