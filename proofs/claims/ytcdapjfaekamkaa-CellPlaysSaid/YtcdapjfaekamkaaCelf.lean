/- The cell's look at a block, walked. -/
import Derived.Test.YtcdapjfaekamkaaCelp
import Derived.Test.YtcdapjfaekamkaaTals
namespace Go.Proofs.Ytcdapjfaekamkaa
open Go.RowKit
open Go.NB (Rd Dk Kp Stp Off Dis val Ce footC)

def LookedC (w : World) (base q p : Nat) (v : Value) (c : Ce) (i : Nat) (r : List UInt8 × Int) (e : Ending) (w' : World) : Prop :=
  e = .returned (.int .i64 r.2) ∧ ∃ v', IsC w' base q p v' (if r.2 = 0 then lookC c i r.1 else c) ∧ Stp (footC q v) (footC q v') w w'

set_option maxRecDepth 100000 in
set_option maxHeartbeats 2000000 in
theorem look_any (w : World) (bd ba bc q base based p : Nat) (G : Nat → Prop) (c : Ce) (D : Dk) (i : Nat) (v : Value) (hC : IsC w base q p v c) (hD : HasD w based p G D) (hi : i ≤ 1) (hat : c.at_ ≤ 1000000) (hwn : D.waits.length ≤ 100000)
    (h1 : w.cell? ⟨bd, 0, none⟩ = some (.pointer (some ⟨p, 0, none⟩))) (h2 : w.cell? ⟨ba, 0, none⟩ = some (.int .i64 (c.at_ : Int))) (h3 : w.cell? ⟨bc, 0, none⟩ = some (.pointer (some ⟨q, 0, none⟩)))
    (hbcq : bc ≠ q) (hr64 : (D.read ((c.at_ + i : Nat) : Int)).2 = 0 → (D.read ((c.at_ + i : Nat) : Int)).1.length = 64) :
    Calls Try.prog 28 #[.int .i64 (i : Int), .pointer (some ⟨bd, 0, none⟩), .pointer (some ⟨ba, 0, none⟩), .pointer (some ⟨bc, 0, none⟩)] w (LookedC w base q p v c i (D.read ((c.at_ + i : Nat) : Int))) := by
  obtain ⟨N, hN⟩ : ∃ N, c.at_ + i = N := ⟨_, rfl⟩
  have hNi : (c.at_ : Int) + (i : Int) = (N : Int) := by omega
  rw [hN] at hr64
  rw [hN]
  obtain ⟨l, e1, hr⟩ : ∃ l e1, D.read (N : Int) = (l, e1) := ⟨_, _, rfl⟩
  rw [hr] at hr64
  rw [hr]
  by_cases he1 : e1 = 0
  case neg =>
    have he1b : (e1 == 0) = false := by simpa using he1
    go_enter Try.func28, Try.ntmps28
    go_wp2_with (first
      | (go_at_call 14; refine (dread_any _ _ _ _ _ _ hD (by omega)).mono ?_; rw [hr]; rintro e w1 ⟨a1, k1, rfl, ho1, hb1⟩))
    go_ret
    exact ⟨rfl, v, by rw [if_neg he1]; exact hC.below hb1, Stp.of_below hb1⟩
  subst he1
  have hl64 : l.length = 64 := hr64 rfl
  clear hr64
  go_enter Try.func28, Try.ntmps28
  go_wp2_with (first
    | (go_at_call 14; refine (dread_any _ _ _ _ _ _ hD (by omega)).mono ?_; rw [hr]; rintro e w1 ⟨a1, k1, rfl, ho1, hb1⟩))
  refine NB.wp_region_t [13] (by kernel_rfl) ?_
  have hC2 := (hC.below hb1).below (Below.refl _ w1).drew
  have hS2 : Stp (footC q v) (footC q v) w w1.drew := Stp.of_below (hb1.trans ((Below.refl _ w1).drew.mono hb1.size))
  obtain ⟨a9, k9, e9, hr2, _⟩ := NB.rd_of_own ho1
  cases e9
  have hlo : ∀ k, (Value.slice a1 l.length k1).ownBlock = some k → w.heap.size ≤ k := fun k hk => (ho1.lt k hk).1
  have hqw : q < w.heap.size := hC.lt
  have hr3 : NB.RdB w1.drew a1 l.length k1 l := Rd.below hr2 (Below.refl _ w1).drew
  rw [hl64] at hr3
  have hbd := Rd.bound hr3
  have hle := hr3.le
  have cb : w1.drew.cell? ⟨bc, 0, none⟩ = some (.pointer (some ⟨q, 0, none⟩)) := (hb1.cell (p := ⟨bc, 0, none⟩) (World.block_lt_of_cell? w _ h3)).trans h3
  have c4 : w1.drew.cell? ⟨q, 4, none⟩ = some (.int .u64 (c.top : Int)) := hC2.cell 4 _ rfl
  have f4 : w1.drew.frozen? ⟨q, 4, none⟩ = false := hC2.free 4
  clear hr2 hb1 h1 h2 h3
  have h56 : ¬ k1 = 56 := by omega
  have hki : (56 : Int) ≤ (k1 : Int) := by omega
  have hk56 : 56 ≤ k1 := by omega
  have h8i : (8 : Int) < 64 := by omega
  obtain ⟨b3, o3, e3, hc3⟩ := NB.Rd.pos hr3 (by omega)
  subst e3
  have hb3 : b3 ≠ q := fun e => by
    have := hlo b3 rfl
    omega
  clear hc3 hlo
  have ht3 : NB.RdB w1.drew (some ⟨b3, o3 + 56, none⟩) 8 (k1 - 56) (l.drop 56) := by
    have := NB.rdB_tail hr3 56 (by omega)
    rwa [if_neg h56] at this
  have HN := Go.Lib.hid number_any
  have hmx : ∀ a b d : Nat, (if (if a < b then (b : Int) else (a : Int)) < (d : Int) then (d : Int) else if a < b then (b : Int) else (a : Int)) = ((max a (max b d) : Nat) : Int) := fun a b d => by split <;> split at * <;> omega
  generalize w1.drew = w2 at *
  refine NB.t_r 0 [11, 12, 13] rfl (by kernel_rfl) (by kernel_rfl) rfl _ (fun w' hw' => NB.run_op_load rfl rfl Try.underlying29 rfl (cb) hw') (fun K hK => ?_); go_simp; refine hK _ ?_; clear hK K
  refine NB.t_r 1 [2, 3, 4, 10, 11, 12, 13] rfl (by kernel_rfl) (by kernel_rfl) rfl _ (fun w' hw' => NB.run_op_load rfl rfl Try.underlying29 rfl (cb) hw') (fun K hK => ?_); go_simp; refine hK _ ?_; clear hK K
  refine NB.t_p 2 rfl (by kernel_rfl) (fun K hK => ?_); go_simp; refine hK _ ?_; clear hK K
  refine NB.t_p 3 rfl (by kernel_rfl) (fun K hK => ?_); go_simp; refine hK _ ?_; clear hK K
  refine NB.t_r 4 [10, 11, 12, 13] rfl (by kernel_rfl) (by kernel_rfl) rfl _ (fun w' hw' => NB.run_op_load rfl rfl Try.underlying33 rfl (c4) hw') (fun K hK => ?_); go_simp; refine hK _ ?_; clear hK K
  refine NB.t_p 5 rfl (by kernel_rfl) (fun K hK => ?_); go_simp; refine hK _ ?_; clear hK K
  refine NB.t_p 7 rfl (by kernel_rfl) (fun K hK => ?_); go_simp; refine hK _ ?_; clear hK K
  refine NB.t_p 8 rfl (by kernel_rfl) (fun K hK => ?_); go_simp; refine hK _ ?_; clear hK K
  refine NB.t_e 6 rfl (by kernel_rfl) (by kernel_rfl) (fun K hK => ?_); unfold NB.tmoves; go_simp; refine (HN.out _ _ _ _ l hr3 (by omega)).mono ?_; rintro e w' ⟨rfl, e2⟩; subst w'; refine ⟨_, rfl, Below.refl _ _, hK _ _ ?_⟩; clear hK K
  refine NB.t_e 9 rfl (by kernel_rfl) (by kernel_rfl) (fun K hK => ?_); unfold NB.tmoves; go_simp; refine (HN.out _ _ _ _ _ ht3 (by omega)).mono ?_; rintro e w' ⟨rfl, e2⟩; subst w'; refine ⟨_, rfl, Below.refl _ _, hK _ _ ?_⟩; clear hK K
  refine NB.t_p 10 rfl (by kernel_rfl) (fun K hK => ?_); go_simp; refine hK _ ?_; clear hK K
  refine NB.t_p 11 rfl (by kernel_rfl) (fun K hK => ?_); go_simp; refine hK _ ?_; clear hK K
  refine NB.t_p 12 rfl (by kernel_rfl) (fun K hK => ?_); go_simp; refine hK _ ?_; clear hK K
  refine NB.t_w 13 rfl (by kernel_rfl) (by kernel_rfl) rfl (fun Q' hK => ?_)
  go_wp2_with fail
  refine NB.t_end (by kernel_rfl) ?_
  obtain ⟨TM, hTM⟩ : ∃ TM, topC c l = TM := ⟨_, rfl⟩
  rw [show max c.top (max (num8 l) (num8 (l.drop 56))) = TM from hTM]
  have hC3 : IsC (w2.setCell ⟨q, 4, none⟩ (.int .u64 (TM : Int))) base q p v { c with top := TM } := hC2.put 4 _ _ rfl rfl
  have hS3 := hS2.set (x := ⟨q, 4, none⟩) (.inl rfl) (.int .u64 (TM : Int))
  have hr5 : NB.RdB (w2.setCell ⟨q, 4, none⟩ (.int .u64 (TM : Int))) (some ⟨b3, o3, none⟩) 64 k1 l := (Kp.setCell (F := fun k => k = q) (Kp.refl _ _) (x := ⟨q, 4, none⟩) (.inl rfl) _).rdB hr3 (fun b o e _ => by cases e; exact hb3)
  have cb3 : (w2.setCell ⟨q, 4, none⟩ (.int .u64 (TM : Int))).cell? ⟨bc, 0, none⟩ = some (.pointer (some ⟨q, 0, none⟩)) := (World.cell?_setCell_other _ _ _ _ (by simp)).trans cb
  clear c4 f4 cb hC2 hS2 hr3 ht3
  generalize w2.setCell ⟨q, 4, none⟩ (.int .u64 (TM : Int)) = w3 at *
  obtain ⟨M, hM⟩ : ∃ M, num8 l = M := ⟨_, rfl⟩
  simp only [hM]
  obtain ⟨TL, hTL⟩ : ∃ TL, num8 (l.drop 56) = TL := ⟨_, rfl⟩
  simp only [hTL]
  cases hW : wholeL l
  · go_wp2_with fail
    refine NB.wp_region_m (by kernel_rfl) ?_
    have hC4 := hC3.below (Below.refl _ w3).drew
    have hS4 := hS3.trans (Stp.of_below (Below.refl _ w3).drew)
    have hr6 := Rd.below hr5 (Below.refl _ w3).drew
    have cb4 := Below.cell (Below.refl _ w3).drew (World.block_lt_of_cell? w3 _ cb3) |>.trans cb3
    clear hC3 hS3 hr5 cb3
    generalize w3.drew = w4 at *
    refine NB.any_p 0 rfl (by kernel_rfl) (fun K hK => ?_); go_simp; refine hK _ ?_; clear hK K
    refine NB.any_e 1 rfl (by kernel_rfl) (fun K hK => ?_); unfold NB.moves; go_simp; refine (whole_any _ _ _ l hr6).mono ?_; rw [hW]; rintro e w5 ⟨rfl, hb5⟩; refine ⟨_, rfl, hb5, hK _ _ ?_⟩; clear hK K
    have hC5 := hC4.below hb5
    have hS5 := hS4.trans (Stp.of_below hb5)
    have hr7 := Rd.below hr6 hb5
    have cb5 := Below.cell hb5 (World.block_lt_of_cell? _ _ cb4) |>.trans cb4
    have c3 : w5.cell? ⟨q, 3, none⟩ = some (.int .u64 (c.turn : Int)) := hC5.cell 3 _ rfl
    clear hC4 hS4 hr6 cb4 hb5
    refine NB.any_p 2 rfl (by kernel_rfl) (fun K hK => ?_); go_simp; refine hK _ ?_; clear hK K
    refine NB.any_p 3 rfl (by kernel_rfl) (fun K hK => ?_); go_simp; refine hK _ ?_; clear hK K
    refine NB.any_p 5 rfl (by kernel_rfl) (fun K hK => ?_); go_simp; refine hK _ ?_; clear hK K
    refine NB.any_p 6 rfl (by kernel_rfl) (fun K hK => ?_); go_simp; refine hK _ ?_; clear hK K
    refine NB.any_p 7 rfl (by kernel_rfl) (fun K hK => ?_); go_simp; refine hK _ ?_; clear hK K
    refine NB.any_p 8 rfl (by kernel_rfl) (fun K hK => ?_); go_simp; refine hK _ ?_; clear hK K
    refine NB.any_e 4 rfl (by kernel_rfl) (fun K hK => ?_); go_simp; refine hK _ _ ?_; clear hK K
    refine NB.any_p 9 rfl (by kernel_rfl) (fun K hK => ?_); go_simp; refine hK _ ?_; clear hK K
    refine NB.any_p 10 rfl (by kernel_rfl) (fun K hK => ?_); go_simp; refine hK _ ?_; clear hK K
    refine NB.any_end (by kernel_rfl) ?_
    go_wp2_with fail
    go_ret
    refine ⟨rfl, v, ?_, hS5⟩
    rw [if_pos rfl, lookC, if_neg (by rw [hW]; simp), hTM]
    exact hC5
  by_cases hlt : c.turn < M
  · have hlti : (c.turn : Int) < (M : Int) := by omega
    go_wp2_with fail
    refine NB.wp_region_m (by kernel_rfl) ?_
    have hC4 := hC3.below (Below.refl _ w3).drew
    have hS4 := hS3.trans (Stp.of_below (Below.refl _ w3).drew)
    have hr6 := Rd.below hr5 (Below.refl _ w3).drew
    have cb4 := Below.cell (Below.refl _ w3).drew (World.block_lt_of_cell? w3 _ cb3) |>.trans cb3
    clear hC3 hS3 hr5 cb3
    generalize w3.drew = w4 at *
    refine NB.any_p 0 rfl (by kernel_rfl) (fun K hK => ?_); go_simp; refine hK _ ?_; clear hK K
    refine NB.any_e 1 rfl (by kernel_rfl) (fun K hK => ?_); unfold NB.moves; go_simp; refine (whole_any _ _ _ l hr6).mono ?_; rw [hW]; rintro e w5 ⟨rfl, hb5⟩; refine ⟨_, rfl, hb5, hK _ _ ?_⟩; clear hK K
    have hC5 := hC4.below hb5
    have hS5 := hS4.trans (Stp.of_below hb5)
    have hr7 := Rd.below hr6 hb5
    have cb5 := Below.cell hb5 (World.block_lt_of_cell? _ _ cb4) |>.trans cb4
    have c3 : w5.cell? ⟨q, 3, none⟩ = some (.int .u64 (c.turn : Int)) := hC5.cell 3 _ rfl
    clear hC4 hS4 hr6 cb4 hb5
    refine NB.any_p 2 rfl (by kernel_rfl) (fun K hK => ?_); go_simp; refine hK _ ?_; clear hK K
    refine NB.any_p 3 rfl (by kernel_rfl) (fun K hK => ?_); go_simp; refine hK _ ?_; clear hK K
    refine NB.any_r 5 rfl (by kernel_rfl) rfl _ (fun w' hw' => NB.run_op_load rfl rfl Try.underlying29 rfl (cb5) hw') (fun K hK => ?_); go_simp; refine hK _ ?_; clear hK K
    refine NB.any_p 6 rfl (by kernel_rfl) (fun K hK => ?_); go_simp; refine hK _ ?_; clear hK K
    refine NB.any_p 7 rfl (by kernel_rfl) (fun K hK => ?_); go_simp; refine hK _ ?_; clear hK K
    refine NB.any_r 8 rfl (by kernel_rfl) rfl _ (fun w' hw' => NB.run_op_load rfl rfl Try.underlying33 rfl (c3) hw') (fun K hK => ?_); go_simp; refine hK _ ?_; clear hK K
    refine NB.any_e 4 rfl (by kernel_rfl) (fun K hK => ?_); unfold NB.moves; go_simp; refine (HN.out _ _ _ _ l hr7 (by omega)).mono ?_; rw [hM]; rintro e w' ⟨rfl, e2⟩; subst w'; refine ⟨_, rfl, Below.refl _ _, hK _ _ ?_⟩; clear hK K
    refine NB.any_p 9 rfl (by kernel_rfl) (fun K hK => ?_); go_simp; refine hK _ ?_; clear hK K
    refine NB.any_p 10 rfl (by kernel_rfl) (fun K hK => ?_); go_simp; refine hK _ ?_; clear hK K
    refine NB.any_end (by kernel_rfl) ?_
    have hy : (l.getD 8 0).toNat ≤ 43 := by
      have := hW
      simp only [wholeL, Bool.and_eq_true, decide_eq_true_eq] at this
      exact this.1.2
    obtain ⟨Y, hY⟩ : ∃ Y, (l.getD 8 0).toNat = Y := ⟨_, rfl⟩
    rw [hY] at hy
    obtain ⟨B, hB⟩ : ∃ B, (l.drop 9).take Y = B := ⟨_, rfl⟩
    have hBl : B.length = Y := by rw [← hB, List.length_take, List.length_drop, hl64]; omega
    go_wp2_with fail
    refine NB.wp_region_s [16, 19, 22] (fun w => w.cell? ⟨bc, 0, none⟩ = some (.pointer (some ⟨q, 0, none⟩))) (by kernel_rfl) ?_
    have hC6 := hC5.below (Below.refl _ w5).drew
    have hS6 := hS5.trans (Stp.of_below (Below.refl _ w5).drew)
    have hr8 := Rd.below hr7 (Below.refl _ w5).drew
    have cb6 := Below.cell (Below.refl _ w5).drew (World.block_lt_of_cell? _ _ cb5) |>.trans cb5
    clear hC5 hS5 hr7 cb5
    generalize w5.drew = w6 at *
    have ht9 : NB.RdB w6 (some ⟨b3, o3 + 9, none⟩) B.length (k1 - 9) B := by
      have h9 : ¬ k1 = 9 := by omega
      have h := NB.rdB_tail hr8 9 (by omega)
      rw [if_neg h9] at h
      have h2 := NB.rdB_cut h Y (by omega)
      rw [hB] at h2
      rw [hBl]
      exact h2
    have hc8 : w6.cell? ⟨b3, o3 + 8, none⟩ = some (.int .u8 (Y : Int)) := by
      obtain ⟨b4, o4, e4, hcc⟩ := NB.RdB.at hr8 (by omega)
      cases e4
      rw [← hY]
      exact hcc 8 (by omega)
    obtain ⟨Z, hZ⟩ : ∃ Z, 9 + Y = Z := ⟨_, rfl⟩
    have hZi : (9 : Int) + (Y : Int) = (Z : Int) := by omega
    have hZk : (Z : Int) ≤ (k1 : Int) := by omega
    have h9Z : (9 : Int) ≤ (Z : Int) := by omega
    have hZY : Z - 9 = B.length := by omega
    have hk9 : ¬ k1 = 9 := by omega
    have hwY : IntKind.i64.wrap (Y : Int) = (Y : Int) := by rw [IntKind.wrap_i64]; omega
    have hwZ : IntKind.i64.wrap (Z : Int) = (Z : Int) := by rw [IntKind.wrap_i64]; omega
    have hmZ : max (Z : Int) 0 = (Z : Int) := by omega
    have hB43 : B.length ≤ 43 := by omega
    clear hBl
    skip
    refine NB.s_a 0 rfl (by kernel_rfl) rfl _ (cb6) (fun x y hx hy => (Below.cell hy (World.block_lt_of_cell? _ _ hx)).trans hx) (fun w' hw' => NB.run_op_load rfl rfl Try.underlying29 rfl hw' (Below.refl _ w')) (fun K hK => ?_); go_simp; refine hK _ ?_; clear hK K
    refine NB.s_a 1 rfl (by kernel_rfl) rfl _ (cb6) (fun x y hx hy => (Below.cell hy (World.block_lt_of_cell? _ _ hx)).trans hx) (fun w' hw' => NB.run_op_load rfl rfl Try.underlying29 rfl hw' (Below.refl _ w')) (fun K hK => ?_); go_simp; refine hK _ ?_; clear hK K
    refine NB.s_a 2 rfl (by kernel_rfl) rfl _ (cb6) (fun x y hx hy => (Below.cell hy (World.block_lt_of_cell? _ _ hx)).trans hx) (fun w' hw' => NB.run_op_load rfl rfl Try.underlying29 rfl hw' (Below.refl _ w')) (fun K hK => ?_); go_simp; refine hK _ ?_; clear hK K
    refine NB.s_p 3 rfl (by kernel_rfl) (fun K hK => ?_); go_simp; refine hK _ ?_; clear hK K
    refine NB.s_p 4 rfl (by kernel_rfl) (fun K hK => ?_); go_simp; refine hK _ ?_; clear hK K
    refine NB.s_p 6 rfl (by kernel_rfl) (fun K hK => ?_); go_simp; refine hK _ ?_; clear hK K
    refine NB.s_p 7 rfl (by kernel_rfl) (fun K hK => ?_); go_simp; refine hK _ ?_; clear hK K
    refine NB.s_p 8 rfl (by kernel_rfl) (fun K hK => ?_); go_simp; refine hK _ ?_; clear hK K
    refine NB.s_r 9 [10, 11, 12, 13, 14, 15, 16, 17, 18, 19, 20, 21, 22] rfl (by kernel_rfl) (by kernel_rfl) rfl _ (fun w' hw' => NB.run_op_load rfl rfl Try.underlying5 rfl (hc8) hw') (fun K hK => ?_); go_simp; refine hK _ ?_; clear hK K
    refine NB.s_p 10 rfl (by kernel_rfl) (fun K hK => ?_); go_simp; refine hK _ ?_; clear hK K
    refine NB.s_p 11 rfl (by kernel_rfl) (fun K hK => ?_); go_simp; refine hK _ ?_; clear hK K
    refine NB.s_p 12 rfl (by kernel_rfl) (fun K hK => ?_); go_simp; refine hK _ ?_; clear hK K
    refine NB.s_e 5 rfl (by kernel_rfl) (by kernel_rfl) (fun K hK => ?_); unfold NB.tmoves; go_simp; refine (HN.out _ _ _ _ l hr8 (by omega)).mono ?_; rw [hM]; rintro e w' ⟨rfl, e2⟩; subst w'; refine ⟨_, rfl, Below.refl _ _, hK _ _ ?_⟩; clear hK K
    refine NB.s_e 13 rfl (by kernel_rfl) (by kernel_rfl) (fun K hK => ?_); unfold NB.tmoves; go_simp; refine (clone_any _ _ _ _ B ht9 (by omega)).mono ?_; rintro e w8 ⟨a8, k8, rfl, ho8, hb8⟩; refine ⟨_, rfl, hb8, hK _ _ ?_⟩; clear hK K
    have hC8 := hC6.below hb8
    have hS8 := hS6.trans (Stp.of_below hb8)
    have hnv : (Value.slice a8 B.length k8).ownBlock ≠ some q := fun e => by have := (ho8.lt q e).1; have := hC6.lt; omega
    have hfw : ∀ k, (Value.slice a8 B.length k8).ownBlock = some k → w.heap.size ≤ k := fun k e => by have := (ho8.lt k e).1; have := hS6.size; omega
    replace ho8 := NB.own_mono ho8 hC6.base_le
    have cb8 := (Below.cell hb8 (World.block_lt_of_cell? _ _ cb6)).trans cb6
    clear hC6 hS6 hr8 cb6 hc8 ht9
    refine NB.s_p 14 rfl (by kernel_rfl) (fun K hK => ?_); go_simp; refine hK _ ?_; clear hK K
    refine NB.s_p 15 rfl (by kernel_rfl) (fun K hK => ?_); go_simp; refine hK _ ?_; clear hK K
    refine NB.s_w 16 rfl (by kernel_rfl) (by kernel_rfl) rfl (fun Q' hK => ?_)
    have c2 : w8.cell? ⟨q, 2, none⟩ = some (.int .i64 c.now) := hC8.cell 2 _ rfl
    have f2 := hC8.free 2
    go_wp2_with fail
    refine ⟨(World.cell?_setCell_other _ _ _ _ (by simp)).trans cb8, ?_⟩
    have cb9 : (w8.setCell ⟨q, 2, none⟩ (.int .i64 (i : Int))).cell? ⟨bc, 0, none⟩ = some (.pointer (some ⟨q, 0, none⟩)) := (World.cell?_setCell_other _ _ _ _ (by simp)).trans cb8
    clear cb8
    have hC9 : IsC (w8.setCell ⟨q, 2, none⟩ (.int .i64 (i : Int))) base q p v { c with top := TM, now := (i : Int) } := hC8.put 2 _ _ rfl rfl
    have ho9 := own_setq ho8 hnv 2 (.int .i64 (i : Int))
    have hS9 := hS8.set (x := ⟨q, 2, none⟩) (.inl rfl) (.int .i64 (i : Int))
    clear c2 f2 hC8 ho8 hS8
    generalize w8.setCell ⟨q, 2, none⟩ (.int .i64 (i : Int)) = w9 at *
    refine NB.s_p 17 rfl (by kernel_rfl) (fun K hK => ?_); go_simp; refine hK _ ?_; clear hK K
    refine NB.s_p 18 rfl (by kernel_rfl) (fun K hK => ?_); go_simp; refine hK _ ?_; clear hK K
    refine NB.s_w 19 rfl (by kernel_rfl) (by kernel_rfl) rfl (fun Q' hK => ?_)
    have c3 : w9.cell? ⟨q, 3, none⟩ = some (.int .u64 (c.turn : Int)) := hC9.cell 3 _ rfl
    have f3 := hC9.free 3
    go_wp2_with fail
    refine ⟨(World.cell?_setCell_other _ _ _ _ (by simp)).trans cb9, ?_⟩
    have cb10 : (w9.setCell ⟨q, 3, none⟩ (.int .u64 (M : Int))).cell? ⟨bc, 0, none⟩ = some (.pointer (some ⟨q, 0, none⟩)) := (World.cell?_setCell_other _ _ _ _ (by simp)).trans cb9
    clear cb9
    have hC10 : IsC (w9.setCell ⟨q, 3, none⟩ (.int .u64 (M : Int))) base q p v { c with top := TM, now := (i : Int), turn := M } := hC9.put 3 _ _ rfl rfl
    have ho10 := own_setq ho9 hnv 3 (.int .u64 (M : Int))
    have hS10 := hS9.set (x := ⟨q, 3, none⟩) (.inl rfl) (.int .u64 (M : Int))
    clear c3 f3 hC9 ho9 hS9
    generalize w9.setCell ⟨q, 3, none⟩ (.int .u64 (M : Int)) = w10 at *
    refine NB.s_p 20 rfl (by kernel_rfl) (fun K hK => ?_); go_simp; refine hK _ ?_; clear hK K
    refine NB.s_p 21 rfl (by kernel_rfl) (fun K hK => ?_); go_simp; refine hK _ ?_; clear hK K
    refine NB.s_w 22 rfl (by kernel_rfl) (by kernel_rfl) rfl (fun Q' hK => ?_)
    have c5 : w10.cell? ⟨q, 5, none⟩ = some v := hC10.cell 5 _ rfl
    have f5 := hC10.free 5
    go_wp2_with fail
    refine ⟨(World.cell?_setCell_other _ _ _ _ (by simp)).trans cb10, ?_⟩
    refine NB.s_end (by kernel_rfl) ?_
    go_wp2_with fail
    go_ret
    refine ⟨rfl, .slice a8 B.length k8, ?_, ?_⟩
    · rw [if_pos rfl, lookC, if_pos (by rw [hW, hM]; simpa using hlt), hTM, hM, hY, hB]
      exact hC10.putB _ B ho10 hnv
    · have h12 := hS10.set (x := ⟨q, 5, none⟩) (.inl rfl) (.slice a8 B.length k8)
      refine ⟨h12.kp, fun k hk => ?_⟩
      rcases hk with rfl | hk
      · exact .inl (.inl rfl)
      · exact .inr (hfw k hk)
  · have hlti : ¬ (c.turn : Int) < (M : Int) := by omega
    go_wp2_with fail
    refine NB.wp_region_m (by kernel_rfl) ?_
    have hC4 := hC3.below (Below.refl _ w3).drew
    have hS4 := hS3.trans (Stp.of_below (Below.refl _ w3).drew)
    have hr6 := Rd.below hr5 (Below.refl _ w3).drew
    have cb4 := Below.cell (Below.refl _ w3).drew (World.block_lt_of_cell? w3 _ cb3) |>.trans cb3
    clear hC3 hS3 hr5 cb3
    generalize w3.drew = w4 at *
    refine NB.any_p 0 rfl (by kernel_rfl) (fun K hK => ?_); go_simp; refine hK _ ?_; clear hK K
    refine NB.any_e 1 rfl (by kernel_rfl) (fun K hK => ?_); unfold NB.moves; go_simp; refine (whole_any _ _ _ l hr6).mono ?_; rw [hW]; rintro e w5 ⟨rfl, hb5⟩; refine ⟨_, rfl, hb5, hK _ _ ?_⟩; clear hK K
    have hC5 := hC4.below hb5
    have hS5 := hS4.trans (Stp.of_below hb5)
    have hr7 := Rd.below hr6 hb5
    have cb5 := Below.cell hb5 (World.block_lt_of_cell? _ _ cb4) |>.trans cb4
    have c3 : w5.cell? ⟨q, 3, none⟩ = some (.int .u64 (c.turn : Int)) := hC5.cell 3 _ rfl
    clear hC4 hS4 hr6 cb4 hb5
    refine NB.any_p 2 rfl (by kernel_rfl) (fun K hK => ?_); go_simp; refine hK _ ?_; clear hK K
    refine NB.any_p 3 rfl (by kernel_rfl) (fun K hK => ?_); go_simp; refine hK _ ?_; clear hK K
    refine NB.any_r 5 rfl (by kernel_rfl) rfl _ (fun w' hw' => NB.run_op_load rfl rfl Try.underlying29 rfl (cb5) hw') (fun K hK => ?_); go_simp; refine hK _ ?_; clear hK K
    refine NB.any_p 6 rfl (by kernel_rfl) (fun K hK => ?_); go_simp; refine hK _ ?_; clear hK K
    refine NB.any_p 7 rfl (by kernel_rfl) (fun K hK => ?_); go_simp; refine hK _ ?_; clear hK K
    refine NB.any_r 8 rfl (by kernel_rfl) rfl _ (fun w' hw' => NB.run_op_load rfl rfl Try.underlying33 rfl (c3) hw') (fun K hK => ?_); go_simp; refine hK _ ?_; clear hK K
    refine NB.any_e 4 rfl (by kernel_rfl) (fun K hK => ?_); unfold NB.moves; go_simp; refine (HN.out _ _ _ _ l hr7 (by omega)).mono ?_; rw [hM]; rintro e w' ⟨rfl, e2⟩; subst w'; refine ⟨_, rfl, Below.refl _ _, hK _ _ ?_⟩; clear hK K
    refine NB.any_p 9 rfl (by kernel_rfl) (fun K hK => ?_); go_simp; refine hK _ ?_; clear hK K
    refine NB.any_p 10 rfl (by kernel_rfl) (fun K hK => ?_); go_simp; refine hK _ ?_; clear hK K
    refine NB.any_end (by kernel_rfl) ?_
    go_wp2_with fail
    go_ret
    refine ⟨rfl, v, ?_, hS5⟩
    rw [if_pos rfl, lookC, if_neg (by rw [hW, hM]; simpa using hlt), hTM]
    exact hC5
end Go.Proofs.Ytcdapjfaekamkaa
