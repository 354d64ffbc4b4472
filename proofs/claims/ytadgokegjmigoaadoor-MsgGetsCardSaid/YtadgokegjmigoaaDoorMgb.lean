/- Whether a message may be: walked. -/
import Derived.Test.YtadgokegjmigoaaDoorMga
namespace Go.Proofs.YtadgokegjmigoaaDoor
open Go.RowKit
open Go.NB (Rd Kp Stp Off Dis oneB dB Rw RdU)

theorem bits_andNot (x y : Nat) (hx : x < 65536) (hy : y < 65536) : ∃ z : Nat, bits .andNot .u64 (x : Int) (y : Int) = (z : Int) ∧ z < 65536 ∧ ∀ i, z.testBit i = (x.testBit i && !y.testBit i) := by
  have h1 : (BitVec.ofInt 64 (x : Int)).toNat = x := by rw [BitVec.toNat_ofInt]; omega
  have h2 : (BitVec.ofInt 64 (y : Int)).toNat = y := by rw [BitVec.toNat_ofInt]; omega
  have hz : ((BitVec.ofInt 64 (x : Int)) &&& ~~~(BitVec.ofInt 64 (y : Int))).toNat ≤ x := by
    rw [BitVec.toNat_and, h1]; exact Nat.and_le_left
  refine ⟨((BitVec.ofInt 64 (x : Int)) &&& ~~~(BitVec.ofInt 64 (y : Int))).toNat, ?_, by omega, fun i => ?_⟩
  · show IntKind.u64.wrap (((BitVec.ofInt 64 (x : Int)) &&& ~~~(BitVec.ofInt 64 (y : Int))).toNat : Int) = _
    rw [IntKind.wrap_u64]
    omega
  · rw [BitVec.testBit_toNat, BitVec.getLsbD_and, BitVec.getLsbD_not, ← BitVec.testBit_toNat, ← BitVec.testBit_toNat, h1, h2]
    by_cases hi : i < 64
    · simp [hi]
    · have : x.testBit i = false := Nat.testBit_lt_two_pow (Nat.lt_of_lt_of_le hx (by have := Nat.pow_le_pow_right (n := 2) (by omega) (show 16 ≤ i by omega); omega))
      simp [this]
theorem only_bits (m : Mm) (k : Nat) (hk : k < 19) (hm : m.kind = (k : Int)) : (bits .andNot .u64 (bitsM m : Int) ((fldN.getD k 0 : Nat) : Int) != 0) = !onlyF m := by
  obtain ⟨z, e, hz, hb⟩ := bits_andNot (bitsM m) (fldN.getD k 0) (by have := bitsM_lt m; omega) (by have := fld_lt k hk; omega)
  rw [e, neN]
  have hkn : m.kind.toNat = k := by omega
  by_cases ho : onlyF m = true
  · rw [ho]
    have : z = 0 := by
      refine Nat.eq_of_testBit_eq fun i => ?_
      rw [hb, bitsM_bit, Nat.zero_testBit]
      by_cases hi : i < 10
      · by_cases hc : (flds k).contains i = true
        · rw [fld_bit k hk i hi, hc]; simp
        · have hn := (only_iff m).1 ho i hi (by rw [hkn]; intro hm'; exact hc (by simpa using hm'))
          rw [hn]; simp
      · rw [decide_eq_false hi]; simp
    simp [this]
  · have hz0 : z ≠ 0 := fun h0 => ho ((only_iff m).2 fun f hf hnf => by
      have := hb f
      rw [h0, Nat.zero_testBit, bitsM_bit, decide_eq_true hf, fld_bit k hk f hf] at this
      have hc : (flds k).contains f = false := by rw [hkn] at hnf; simpa using hnf
      rw [hc] at this
      simpa using this)
    have : onlyF m = false := by simpa using ho
    rw [this]; simp [hz0]

set_option maxRecDepth 100000 in
set_option maxHeartbeats 8000000 in
theorem mcheck_any (w : World) (hT : Tb w) (m : Mm) (av : Option Addr) (cv : Nat) (ab : Option Addr) (cb : Nat) :
    Calls Tryd.prog 17 #[.agg (msgV m av cv ab cb).toArray] w fun e w' => e = .returned (.int .i64 (mcheckM m)) ∧ Below w.heap.size w w' := by
  have RB : Rw (w.alloc (.cells (msgV m av cv ab cb).toArray 32)) w.heap.size (msgV m av cv ab cb) 32 := NB.rw_new w _ _ rfl
  have hT1 := hT.grow (oneB w (.cells (msgV m av cv ab cb).toArray 32))
  have B1 := oneB w (.cells (msgV m av cv ab cb).toArray 32)
  by_cases hk : known m.kind = true
  case neg =>
    have hkn : known m.kind = false := by simpa using hk
    have hq : mcheckM m = 1 := by unfold mcheckM mcheckB; rw [hkn]; simp
    rw [hq]
    unfold msgV at RB hT1 B1 ⊢
    simp only [List.toArray] at RB hT1 B1 ⊢
    go_enter Tryd.func17, Tryd.ntmps17
    go_wp2_with fail
    refine NB.wp_region_m (by kernel_rfl) ?_
    have RB2 := RB.below (dB _)
    have hT2 := hT1.grow (dB _)
    have B2 := B1.drew
    clear RB hT1 B1
    generalize hw2 : World.drew _ = w2 at *
    clear hw2
    refine NB.any_p 0 rfl (by kernel_rfl) (fun K hK => ?_); go_simp; refine hK _ ?_; clear hK K
    refine NB.any_r 1 rfl (by kernel_rfl) rfl _ (fun w' hw' => NB.run_op_load rfl rfl Tryd.underlying3 rfl ((RB2.cell 0 _ rfl)) hw') (fun K hK => ?_); go_simp; refine hK _ ?_; clear hK K
    refine NB.any_e 2 rfl (by kernel_rfl) (fun K hK => ?_); unfold NB.moves; go_simp; refine (known_any _ _).mono ?_; rw [hkn]; rintro e w' ⟨rfl, e2⟩; subst w'; refine ⟨_, rfl, Below.refl _ _, hK _ _ ?_⟩; clear hK K
    refine NB.any_p 3 rfl (by kernel_rfl) (fun K hK => ?_); go_simp; refine hK _ ?_; clear hK K
    refine NB.any_p 4 rfl (by kernel_rfl) (fun K hK => ?_); go_simp; refine hK _ ?_; clear hK K
    refine NB.any_p 5 rfl (by kernel_rfl) (fun K hK => ?_); go_simp; refine hK _ ?_; clear hK K
    refine NB.any_p 7 rfl (by kernel_rfl) (fun K hK => ?_); go_simp; refine hK _ ?_; clear hK K
    refine NB.any_p 8 rfl (by kernel_rfl) (fun K hK => ?_); go_simp; refine hK _ ?_; clear hK K
    refine NB.any_p 9 rfl (by kernel_rfl) (fun K hK => ?_); go_simp; refine hK _ ?_; clear hK K
    refine NB.any_p 10 rfl (by kernel_rfl) (fun K hK => ?_); go_simp; refine hK _ ?_; clear hK K
    refine NB.any_e 6 rfl (by kernel_rfl) (fun K hK => ?_); go_simp; refine hK _ _ ?_; clear hK K
    refine NB.any_p 11 rfl (by kernel_rfl) (fun K hK => ?_); go_simp; refine hK _ ?_; clear hK K
    refine NB.any_p 12 rfl (by kernel_rfl) (fun K hK => ?_); go_simp; refine hK _ ?_; clear hK K
    refine NB.any_p 13 rfl (by kernel_rfl) (fun K hK => ?_); go_simp; refine hK _ ?_; clear hK K
    refine NB.any_p 14 rfl (by kernel_rfl) (fun K hK => ?_); go_simp; refine hK _ ?_; clear hK K
    refine NB.any_p 15 rfl (by kernel_rfl) (fun K hK => ?_); go_simp; refine hK _ ?_; clear hK K
    refine NB.any_p 16 rfl (by kernel_rfl) (fun K hK => ?_); go_simp; refine hK _ ?_; clear hK K
    refine NB.any_e 17 rfl (by kernel_rfl) (fun K hK => ?_); go_simp; refine hK _ _ ?_; clear hK K
    refine NB.any_p 18 rfl (by kernel_rfl) (fun K hK => ?_); go_simp; refine hK _ ?_; clear hK K
    refine NB.any_p 19 rfl (by kernel_rfl) (fun K hK => ?_); go_simp; refine hK _ ?_; clear hK K
    refine NB.any_p 20 rfl (by kernel_rfl) (fun K hK => ?_); go_simp; refine hK _ ?_; clear hK K
    refine NB.any_p 21 rfl (by kernel_rfl) (fun K hK => ?_); go_simp; refine hK _ ?_; clear hK K
    refine NB.any_p 22 rfl (by kernel_rfl) (fun K hK => ?_); go_simp; refine hK _ ?_; clear hK K
    refine NB.any_e 23 rfl (by kernel_rfl) (fun K hK => ?_); go_simp; refine hK _ _ ?_; clear hK K
    refine NB.any_p 24 rfl (by kernel_rfl) (fun K hK => ?_); go_simp; refine hK _ ?_; clear hK K
    refine NB.any_p 25 rfl (by kernel_rfl) (fun K hK => ?_); go_simp; refine hK _ ?_; clear hK K
    refine NB.any_p 26 rfl (by kernel_rfl) (fun K hK => ?_); go_simp; refine hK _ ?_; clear hK K
    refine NB.any_p 27 rfl (by kernel_rfl) (fun K hK => ?_); go_simp; refine hK _ ?_; clear hK K
    refine NB.any_p 28 rfl (by kernel_rfl) (fun K hK => ?_); go_simp; refine hK _ ?_; clear hK K
    refine NB.any_e 29 rfl (by kernel_rfl) (fun K hK => ?_); go_simp; refine hK _ _ ?_; clear hK K
    refine NB.any_p 30 rfl (by kernel_rfl) (fun K hK => ?_); go_simp; refine hK _ ?_; clear hK K
    refine NB.any_p 31 rfl (by kernel_rfl) (fun K hK => ?_); go_simp; refine hK _ ?_; clear hK K
    refine NB.any_p 32 rfl (by kernel_rfl) (fun K hK => ?_); go_simp; refine hK _ ?_; clear hK K
    refine NB.any_p 33 rfl (by kernel_rfl) (fun K hK => ?_); go_simp; refine hK _ ?_; clear hK K
    refine NB.any_p 34 rfl (by kernel_rfl) (fun K hK => ?_); go_simp; refine hK _ ?_; clear hK K
    refine NB.any_p 35 rfl (by kernel_rfl) (fun K hK => ?_); go_simp; refine hK _ ?_; clear hK K
    refine NB.any_p 36 rfl (by kernel_rfl) (fun K hK => ?_); go_simp; refine hK _ ?_; clear hK K
    refine NB.any_p 37 rfl (by kernel_rfl) (fun K hK => ?_); go_simp; refine hK _ ?_; clear hK K
    refine NB.any_p 38 rfl (by kernel_rfl) (fun K hK => ?_); go_simp; refine hK _ ?_; clear hK K
    refine NB.any_p 39 rfl (by kernel_rfl) (fun K hK => ?_); go_simp; refine hK _ ?_; clear hK K
    refine NB.any_p 40 rfl (by kernel_rfl) (fun K hK => ?_); go_simp; refine hK _ ?_; clear hK K
    refine NB.any_p 41 rfl (by kernel_rfl) (fun K hK => ?_); go_simp; refine hK _ ?_; clear hK K
    refine NB.any_p 42 rfl (by kernel_rfl) (fun K hK => ?_); go_simp; refine hK _ ?_; clear hK K
    refine NB.any_p 43 rfl (by kernel_rfl) (fun K hK => ?_); go_simp; refine hK _ ?_; clear hK K
    refine NB.any_end (by kernel_rfl) ?_
    go_wp2_with fail
    go_ret
    exact ⟨rfl, B2⟩
  obtain ⟨hk1, hk2⟩ := known_iff.1 hk
  obtain ⟨kk, hkk⟩ := Int.eq_ofNat_of_zero_le (show 0 ≤ m.kind by omega)
  have hk19 : kk < 19 := by omega
  have hob := only_bits m kk hk19 hkk
  obtain ⟨T, hTt⟩ : ∃ T, fldN.getD kk 0 = T := ⟨_, rfl⟩
  rw [hTt] at hob
  have hTk : ∀ v : World, Tb v → v.cell? ⟨0, kk, none⟩ = some (.int .u64 (T : Int)) := fun v h => by rw [← hTt]; exact h kk hk19
  have HTK := Go.Lib.hid hTk
  clear hTk hTt
  have hkn := hk
  have hkt : m.kind.toNat = kk := by omega
  have h0k : (0 : Int) ≤ m.kind := by omega
  have h19k : m.kind < 19 := by omega
  clear hkk
  by_cases ho : onlyF m = true
  case neg =>
    have hof : onlyF m = false := by simpa using ho
    rw [hof, Bool.not_false] at hob
    have hob' : ¬ bits .andNot .u64 (bitsM m : Int) (T : Int) = 0 := by simpa using hob
    have hq : mcheckM m = 1 := by unfold mcheckM mcheckB; rw [hof]; simp
    rw [hq]
    unfold msgV at RB hT1 B1 ⊢
    simp only [List.toArray] at RB hT1 B1 ⊢
    clear hq
    go_enter Tryd.func17, Tryd.ntmps17
    go_wp2_with fail
    refine NB.wp_region_m (by kernel_rfl) ?_
    have RB2 := RB.below (dB _)
    have hT2 := hT1.grow (dB _)
    have B2 := B1.drew
    clear RB hT1 B1
    generalize hw2 : World.drew _ = w2 at *
    clear hw2
    refine NB.any_p 0 rfl (by kernel_rfl) (fun K hK => ?_); go_simp; refine hK _ ?_; clear hK K
    refine NB.any_r 1 rfl (by kernel_rfl) rfl _ (fun w' hw' => NB.run_op_load rfl rfl Tryd.underlying3 rfl ((RB2.cell 0 _ rfl)) hw') (fun K hK => ?_); go_simp; refine hK _ ?_; clear hK K
    refine NB.any_e 2 rfl (by kernel_rfl) (fun K hK => ?_); unfold NB.moves; go_simp; refine (known_any _ _).mono ?_; rw [hkn]; rintro e w' ⟨rfl, e2⟩; subst w'; refine ⟨_, rfl, Below.refl _ _, hK _ _ ?_⟩; clear hK K
    refine NB.any_p 3 rfl (by kernel_rfl) (fun K hK => ?_); go_simp; refine hK _ ?_; clear hK K
    refine NB.any_p 4 rfl (by kernel_rfl) (fun K hK => ?_); go_simp; refine hK _ ?_; clear hK K
    refine NB.any_r 5 rfl (by kernel_rfl) rfl _ (fun w' hw' => NB.run_op_load_agg rfl rfl Tryd.underlying32 rfl _ _ (0, 0) (RB2) (m := 11) (by kernel_rfl) (by simp) _ rfl hw') (fun K hK => ?_); go_simp; refine hK _ ?_; clear hK K
    refine NB.any_p 7 rfl (by kernel_rfl) (fun K hK => ?_); go_simp; refine hK _ ?_; clear hK K
    refine NB.any_r 8 rfl (by kernel_rfl) rfl _ (fun w' hw' => NB.run_op_load rfl rfl Tryd.underlying3 rfl ((RB2.cell 0 _ rfl)) hw') (fun K hK => ?_); go_simp; refine hK _ ?_; clear hK K
    refine NB.any_p 9 rfl (by kernel_rfl) (fun K hK => ?_); go_simp; refine hK _ ?_; clear hK K
    refine NB.any_r 10 rfl (by kernel_rfl) rfl _ (fun w' hw' => NB.run_op_load rfl rfl Tryd.underlying67 rfl ((HTK.out w2 hT2)) hw') (fun K hK => ?_); go_simp; refine hK _ ?_; clear hK K
    refine NB.any_e 6 rfl (by kernel_rfl) (fun K hK => ?_); unfold NB.moves; go_simp; refine (has_any w2 m av cv ab cb).mono ?_; rintro e w3 ⟨rfl, hb3⟩; refine ⟨_, rfl, hb3, hK _ _ ?_⟩; clear hK K
    have RB3 := RB2.below hb3
    have hT3 := hT2.grow hb3
    have B3 := NB.bel B2 hb3 B2.size
    clear RB2 hT2 B2 hb3
    refine NB.any_p 11 rfl (by kernel_rfl) (fun K hK => ?_); go_simp; refine hK _ ?_; clear hK K
    refine NB.any_p 12 rfl (by kernel_rfl) (fun K hK => ?_); go_simp; refine hK _ ?_; clear hK K
    refine NB.any_p 13 rfl (by kernel_rfl) (fun K hK => ?_); go_simp; refine hK _ ?_; clear hK K
    refine NB.any_p 14 rfl (by kernel_rfl) (fun K hK => ?_); go_simp; refine hK _ ?_; clear hK K
    refine NB.any_p 15 rfl (by kernel_rfl) (fun K hK => ?_); go_simp; refine hK _ ?_; clear hK K
    refine NB.any_p 16 rfl (by kernel_rfl) (fun K hK => ?_); go_simp; refine hK _ ?_; clear hK K
    refine NB.any_e 17 rfl (by kernel_rfl) (fun K hK => ?_); go_simp; refine hK _ _ ?_; clear hK K
    refine NB.any_p 18 rfl (by kernel_rfl) (fun K hK => ?_); go_simp; refine hK _ ?_; clear hK K
    refine NB.any_p 19 rfl (by kernel_rfl) (fun K hK => ?_); go_simp; refine hK _ ?_; clear hK K
    refine NB.any_p 20 rfl (by kernel_rfl) (fun K hK => ?_); go_simp; refine hK _ ?_; clear hK K
    refine NB.any_p 21 rfl (by kernel_rfl) (fun K hK => ?_); go_simp; refine hK _ ?_; clear hK K
    refine NB.any_p 22 rfl (by kernel_rfl) (fun K hK => ?_); go_simp; refine hK _ ?_; clear hK K
    refine NB.any_e 23 rfl (by kernel_rfl) (fun K hK => ?_); go_simp; refine hK _ _ ?_; clear hK K
    refine NB.any_p 24 rfl (by kernel_rfl) (fun K hK => ?_); go_simp; refine hK _ ?_; clear hK K
    refine NB.any_p 25 rfl (by kernel_rfl) (fun K hK => ?_); go_simp; refine hK _ ?_; clear hK K
    refine NB.any_p 26 rfl (by kernel_rfl) (fun K hK => ?_); go_simp; refine hK _ ?_; clear hK K
    refine NB.any_p 27 rfl (by kernel_rfl) (fun K hK => ?_); go_simp; refine hK _ ?_; clear hK K
    refine NB.any_p 28 rfl (by kernel_rfl) (fun K hK => ?_); go_simp; refine hK _ ?_; clear hK K
    refine NB.any_e 29 rfl (by kernel_rfl) (fun K hK => ?_); go_simp; refine hK _ _ ?_; clear hK K
    refine NB.any_p 30 rfl (by kernel_rfl) (fun K hK => ?_); go_simp; refine hK _ ?_; clear hK K
    refine NB.any_p 31 rfl (by kernel_rfl) (fun K hK => ?_); go_simp; refine hK _ ?_; clear hK K
    refine NB.any_p 32 rfl (by kernel_rfl) (fun K hK => ?_); go_simp; refine hK _ ?_; clear hK K
    refine NB.any_p 33 rfl (by kernel_rfl) (fun K hK => ?_); go_simp; refine hK _ ?_; clear hK K
    refine NB.any_p 34 rfl (by kernel_rfl) (fun K hK => ?_); go_simp; refine hK _ ?_; clear hK K
    refine NB.any_p 35 rfl (by kernel_rfl) (fun K hK => ?_); go_simp; refine hK _ ?_; clear hK K
    refine NB.any_p 36 rfl (by kernel_rfl) (fun K hK => ?_); go_simp; refine hK _ ?_; clear hK K
    refine NB.any_p 37 rfl (by kernel_rfl) (fun K hK => ?_); go_simp; refine hK _ ?_; clear hK K
    refine NB.any_p 38 rfl (by kernel_rfl) (fun K hK => ?_); go_simp; refine hK _ ?_; clear hK K
    refine NB.any_p 39 rfl (by kernel_rfl) (fun K hK => ?_); go_simp; refine hK _ ?_; clear hK K
    refine NB.any_p 40 rfl (by kernel_rfl) (fun K hK => ?_); go_simp; refine hK _ ?_; clear hK K
    refine NB.any_p 41 rfl (by kernel_rfl) (fun K hK => ?_); go_simp; refine hK _ ?_; clear hK K
    refine NB.any_p 42 rfl (by kernel_rfl) (fun K hK => ?_); go_simp; refine hK _ ?_; clear hK K
    refine NB.any_p 43 rfl (by kernel_rfl) (fun K hK => ?_); go_simp; refine hK _ ?_; clear hK K
    refine NB.any_end (by kernel_rfl) ?_
    go_wp2_with fail
    go_ret
    exact ⟨rfl, B3⟩
  rw [ho, Bool.not_true] at hob
  have hob' : bits .andNot .u64 (bitsM m : Int) (T : Int) = 0 := by simpa using hob
  clear hob
  by_cases hs : 0 ≤ m.shard ∧ m.shard < 8
  case neg =>
    have hW1 : decide (0 ≤ m.shard ∧ m.shard < 8) = false := decide_eq_false hs
    have hq : mcheckM m = 1 := by unfold mcheckM mcheckB limB; rw [hW1]; simp
    rw [hq]
    unfold msgV at RB hT1 B1 ⊢
    simp only [List.toArray] at RB hT1 B1 ⊢
    clear hq
    go_enter Tryd.func17, Tryd.ntmps17
    go_wp2_with fail
    refine NB.wp_region_m (by kernel_rfl) ?_
    have RB2 := RB.below (dB _)
    have hT2 := hT1.grow (dB _)
    have B2 := B1.drew
    clear RB hT1 B1
    generalize hw2 : World.drew _ = w2 at *
    clear hw2
    refine NB.any_p 0 rfl (by kernel_rfl) (fun K hK => ?_); go_simp; refine hK _ ?_; clear hK K
    refine NB.any_r 1 rfl (by kernel_rfl) rfl _ (fun w' hw' => NB.run_op_load rfl rfl Tryd.underlying3 rfl ((RB2.cell 0 _ rfl)) hw') (fun K hK => ?_); go_simp; refine hK _ ?_; clear hK K
    refine NB.any_e 2 rfl (by kernel_rfl) (fun K hK => ?_); unfold NB.moves; go_simp; refine (known_any _ _).mono ?_; rw [hkn]; rintro e w' ⟨rfl, e2⟩; subst w'; refine ⟨_, rfl, Below.refl _ _, hK _ _ ?_⟩; clear hK K
    refine NB.any_p 3 rfl (by kernel_rfl) (fun K hK => ?_); go_simp; refine hK _ ?_; clear hK K
    refine NB.any_p 4 rfl (by kernel_rfl) (fun K hK => ?_); go_simp; refine hK _ ?_; clear hK K
    refine NB.any_r 5 rfl (by kernel_rfl) rfl _ (fun w' hw' => NB.run_op_load_agg rfl rfl Tryd.underlying32 rfl _ _ (0, 0) (RB2) (m := 11) (by kernel_rfl) (by simp) _ rfl hw') (fun K hK => ?_); go_simp; refine hK _ ?_; clear hK K
    refine NB.any_p 7 rfl (by kernel_rfl) (fun K hK => ?_); go_simp; refine hK _ ?_; clear hK K
    refine NB.any_r 8 rfl (by kernel_rfl) rfl _ (fun w' hw' => NB.run_op_load rfl rfl Tryd.underlying3 rfl ((RB2.cell 0 _ rfl)) hw') (fun K hK => ?_); go_simp; refine hK _ ?_; clear hK K
    refine NB.any_p 9 rfl (by kernel_rfl) (fun K hK => ?_); go_simp; refine hK _ ?_; clear hK K
    refine NB.any_r 10 rfl (by kernel_rfl) rfl _ (fun w' hw' => NB.run_op_load rfl rfl Tryd.underlying67 rfl ((HTK.out w2 hT2)) hw') (fun K hK => ?_); go_simp; refine hK _ ?_; clear hK K
    refine NB.any_e 6 rfl (by kernel_rfl) (fun K hK => ?_); unfold NB.moves; go_simp; refine (has_any w2 m av cv ab cb).mono ?_; rintro e w3 ⟨rfl, hb3⟩; refine ⟨_, rfl, hb3, hK _ _ ?_⟩; clear hK K
    have RB3 := RB2.below hb3
    have hT3 := hT2.grow hb3
    have B3 := NB.bel B2 hb3 B2.size
    clear RB2 hT2 B2 hb3
    refine NB.any_p 11 rfl (by kernel_rfl) (fun K hK => ?_); go_simp; refine hK _ ?_; clear hK K
    refine NB.any_p 12 rfl (by kernel_rfl) (fun K hK => ?_); go_simp; refine hK _ ?_; clear hK K
    refine NB.any_p 13 rfl (by kernel_rfl) (fun K hK => ?_); go_simp; refine hK _ ?_; clear hK K
    refine NB.any_p 14 rfl (by kernel_rfl) (fun K hK => ?_); go_simp; refine hK _ ?_; clear hK K
    refine NB.any_p 15 rfl (by kernel_rfl) (fun K hK => ?_); go_simp; refine hK _ ?_; clear hK K
    refine NB.any_r 16 rfl (by kernel_rfl) rfl _ (fun w' hw' => NB.run_op_load rfl rfl Tryd.underlying3 rfl ((RB3.cell 3 _ rfl)) hw') (fun K hK => ?_); go_simp; refine hK _ ?_; clear hK K
    refine NB.any_e 17 rfl (by kernel_rfl) (fun K hK => ?_); unfold NB.moves; go_simp; refine (within_any _ _ _).mono ?_; rw [hW1]; rintro e w' ⟨rfl, e2⟩; subst w'; refine ⟨_, rfl, Below.refl _ _, hK _ _ ?_⟩; clear hK K
    refine NB.any_p 18 rfl (by kernel_rfl) (fun K hK => ?_); go_simp; refine hK _ ?_; clear hK K
    refine NB.any_p 19 rfl (by kernel_rfl) (fun K hK => ?_); go_simp; refine hK _ ?_; clear hK K
    refine NB.any_p 20 rfl (by kernel_rfl) (fun K hK => ?_); go_simp; refine hK _ ?_; clear hK K
    refine NB.any_p 21 rfl (by kernel_rfl) (fun K hK => ?_); go_simp; refine hK _ ?_; clear hK K
    refine NB.any_p 22 rfl (by kernel_rfl) (fun K hK => ?_); go_simp; refine hK _ ?_; clear hK K
    refine NB.any_e 23 rfl (by kernel_rfl) (fun K hK => ?_); go_simp; refine hK _ _ ?_; clear hK K
    refine NB.any_p 24 rfl (by kernel_rfl) (fun K hK => ?_); go_simp; refine hK _ ?_; clear hK K
    refine NB.any_p 25 rfl (by kernel_rfl) (fun K hK => ?_); go_simp; refine hK _ ?_; clear hK K
    refine NB.any_p 26 rfl (by kernel_rfl) (fun K hK => ?_); go_simp; refine hK _ ?_; clear hK K
    refine NB.any_p 27 rfl (by kernel_rfl) (fun K hK => ?_); go_simp; refine hK _ ?_; clear hK K
    refine NB.any_p 28 rfl (by kernel_rfl) (fun K hK => ?_); go_simp; refine hK _ ?_; clear hK K
    refine NB.any_e 29 rfl (by kernel_rfl) (fun K hK => ?_); go_simp; refine hK _ _ ?_; clear hK K
    refine NB.any_p 30 rfl (by kernel_rfl) (fun K hK => ?_); go_simp; refine hK _ ?_; clear hK K
    refine NB.any_p 31 rfl (by kernel_rfl) (fun K hK => ?_); go_simp; refine hK _ ?_; clear hK K
    refine NB.any_p 32 rfl (by kernel_rfl) (fun K hK => ?_); go_simp; refine hK _ ?_; clear hK K
    refine NB.any_p 33 rfl (by kernel_rfl) (fun K hK => ?_); go_simp; refine hK _ ?_; clear hK K
    refine NB.any_p 34 rfl (by kernel_rfl) (fun K hK => ?_); go_simp; refine hK _ ?_; clear hK K
    refine NB.any_p 35 rfl (by kernel_rfl) (fun K hK => ?_); go_simp; refine hK _ ?_; clear hK K
    refine NB.any_p 36 rfl (by kernel_rfl) (fun K hK => ?_); go_simp; refine hK _ ?_; clear hK K
    refine NB.any_p 37 rfl (by kernel_rfl) (fun K hK => ?_); go_simp; refine hK _ ?_; clear hK K
    refine NB.any_p 38 rfl (by kernel_rfl) (fun K hK => ?_); go_simp; refine hK _ ?_; clear hK K
    refine NB.any_p 39 rfl (by kernel_rfl) (fun K hK => ?_); go_simp; refine hK _ ?_; clear hK K
    refine NB.any_p 40 rfl (by kernel_rfl) (fun K hK => ?_); go_simp; refine hK _ ?_; clear hK K
    refine NB.any_p 41 rfl (by kernel_rfl) (fun K hK => ?_); go_simp; refine hK _ ?_; clear hK K
    refine NB.any_p 42 rfl (by kernel_rfl) (fun K hK => ?_); go_simp; refine hK _ ?_; clear hK K
    refine NB.any_p 43 rfl (by kernel_rfl) (fun K hK => ?_); go_simp; refine hK _ ?_; clear hK K
    refine NB.any_end (by kernel_rfl) ?_
    go_wp2_with fail
    go_ret
    exact ⟨rfl, B3⟩
  have hW1 : decide (0 ≤ m.shard ∧ m.shard < 8) = true := decide_eq_true hs
  by_cases hg : 0 ≤ m.seg ∧ m.seg < 4
  case neg =>
    have hW2 : decide (0 ≤ m.seg ∧ m.seg < 4) = false := decide_eq_false hg
    have hq : mcheckM m = 1 := by unfold mcheckM mcheckB limB; rw [hW2]; simp
    rw [hq]
    unfold msgV at RB hT1 B1 ⊢
    simp only [List.toArray] at RB hT1 B1 ⊢
    clear hq
    go_enter Tryd.func17, Tryd.ntmps17
    go_wp2_with fail
    refine NB.wp_region_m (by kernel_rfl) ?_
    have RB2 := RB.below (dB _)
    have hT2 := hT1.grow (dB _)
    have B2 := B1.drew
    clear RB hT1 B1
    generalize hw2 : World.drew _ = w2 at *
    clear hw2
    refine NB.any_p 0 rfl (by kernel_rfl) (fun K hK => ?_); go_simp; refine hK _ ?_; clear hK K
    refine NB.any_r 1 rfl (by kernel_rfl) rfl _ (fun w' hw' => NB.run_op_load rfl rfl Tryd.underlying3 rfl ((RB2.cell 0 _ rfl)) hw') (fun K hK => ?_); go_simp; refine hK _ ?_; clear hK K
    refine NB.any_e 2 rfl (by kernel_rfl) (fun K hK => ?_); unfold NB.moves; go_simp; refine (known_any _ _).mono ?_; rw [hkn]; rintro e w' ⟨rfl, e2⟩; subst w'; refine ⟨_, rfl, Below.refl _ _, hK _ _ ?_⟩; clear hK K
    refine NB.any_p 3 rfl (by kernel_rfl) (fun K hK => ?_); go_simp; refine hK _ ?_; clear hK K
    refine NB.any_p 4 rfl (by kernel_rfl) (fun K hK => ?_); go_simp; refine hK _ ?_; clear hK K
    refine NB.any_r 5 rfl (by kernel_rfl) rfl _ (fun w' hw' => NB.run_op_load_agg rfl rfl Tryd.underlying32 rfl _ _ (0, 0) (RB2) (m := 11) (by kernel_rfl) (by simp) _ rfl hw') (fun K hK => ?_); go_simp; refine hK _ ?_; clear hK K
    refine NB.any_p 7 rfl (by kernel_rfl) (fun K hK => ?_); go_simp; refine hK _ ?_; clear hK K
    refine NB.any_r 8 rfl (by kernel_rfl) rfl _ (fun w' hw' => NB.run_op_load rfl rfl Tryd.underlying3 rfl ((RB2.cell 0 _ rfl)) hw') (fun K hK => ?_); go_simp; refine hK _ ?_; clear hK K
    refine NB.any_p 9 rfl (by kernel_rfl) (fun K hK => ?_); go_simp; refine hK _ ?_; clear hK K
    refine NB.any_r 10 rfl (by kernel_rfl) rfl _ (fun w' hw' => NB.run_op_load rfl rfl Tryd.underlying67 rfl ((HTK.out w2 hT2)) hw') (fun K hK => ?_); go_simp; refine hK _ ?_; clear hK K
    refine NB.any_e 6 rfl (by kernel_rfl) (fun K hK => ?_); unfold NB.moves; go_simp; refine (has_any w2 m av cv ab cb).mono ?_; rintro e w3 ⟨rfl, hb3⟩; refine ⟨_, rfl, hb3, hK _ _ ?_⟩; clear hK K
    have RB3 := RB2.below hb3
    have hT3 := hT2.grow hb3
    have B3 := NB.bel B2 hb3 B2.size
    clear RB2 hT2 B2 hb3
    refine NB.any_p 11 rfl (by kernel_rfl) (fun K hK => ?_); go_simp; refine hK _ ?_; clear hK K
    refine NB.any_p 12 rfl (by kernel_rfl) (fun K hK => ?_); go_simp; refine hK _ ?_; clear hK K
    refine NB.any_p 13 rfl (by kernel_rfl) (fun K hK => ?_); go_simp; refine hK _ ?_; clear hK K
    refine NB.any_p 14 rfl (by kernel_rfl) (fun K hK => ?_); go_simp; refine hK _ ?_; clear hK K
    refine NB.any_p 15 rfl (by kernel_rfl) (fun K hK => ?_); go_simp; refine hK _ ?_; clear hK K
    refine NB.any_r 16 rfl (by kernel_rfl) rfl _ (fun w' hw' => NB.run_op_load rfl rfl Tryd.underlying3 rfl ((RB3.cell 3 _ rfl)) hw') (fun K hK => ?_); go_simp; refine hK _ ?_; clear hK K
    refine NB.any_e 17 rfl (by kernel_rfl) (fun K hK => ?_); unfold NB.moves; go_simp; refine (within_any _ _ _).mono ?_; rw [hW1]; rintro e w' ⟨rfl, e2⟩; subst w'; refine ⟨_, rfl, Below.refl _ _, hK _ _ ?_⟩; clear hK K
    refine NB.any_p 18 rfl (by kernel_rfl) (fun K hK => ?_); go_simp; refine hK _ ?_; clear hK K
    refine NB.any_p 19 rfl (by kernel_rfl) (fun K hK => ?_); go_simp; refine hK _ ?_; clear hK K
    refine NB.any_p 20 rfl (by kernel_rfl) (fun K hK => ?_); go_simp; refine hK _ ?_; clear hK K
    refine NB.any_p 21 rfl (by kernel_rfl) (fun K hK => ?_); go_simp; refine hK _ ?_; clear hK K
    refine NB.any_r 22 rfl (by kernel_rfl) rfl _ (fun w' hw' => NB.run_op_load rfl rfl Tryd.underlying3 rfl ((RB3.cell 4 _ rfl)) hw') (fun K hK => ?_); go_simp; refine hK _ ?_; clear hK K
    refine NB.any_e 23 rfl (by kernel_rfl) (fun K hK => ?_); unfold NB.moves; go_simp; refine (within_any _ _ _).mono ?_; rw [hW2]; rintro e w' ⟨rfl, e2⟩; subst w'; refine ⟨_, rfl, Below.refl _ _, hK _ _ ?_⟩; clear hK K
    refine NB.any_p 24 rfl (by kernel_rfl) (fun K hK => ?_); go_simp; refine hK _ ?_; clear hK K
    refine NB.any_p 25 rfl (by kernel_rfl) (fun K hK => ?_); go_simp; refine hK _ ?_; clear hK K
    refine NB.any_p 26 rfl (by kernel_rfl) (fun K hK => ?_); go_simp; refine hK _ ?_; clear hK K
    refine NB.any_p 27 rfl (by kernel_rfl) (fun K hK => ?_); go_simp; refine hK _ ?_; clear hK K
    refine NB.any_p 28 rfl (by kernel_rfl) (fun K hK => ?_); go_simp; refine hK _ ?_; clear hK K
    refine NB.any_e 29 rfl (by kernel_rfl) (fun K hK => ?_); go_simp; refine hK _ _ ?_; clear hK K
    refine NB.any_p 30 rfl (by kernel_rfl) (fun K hK => ?_); go_simp; refine hK _ ?_; clear hK K
    refine NB.any_p 31 rfl (by kernel_rfl) (fun K hK => ?_); go_simp; refine hK _ ?_; clear hK K
    refine NB.any_p 32 rfl (by kernel_rfl) (fun K hK => ?_); go_simp; refine hK _ ?_; clear hK K
    refine NB.any_p 33 rfl (by kernel_rfl) (fun K hK => ?_); go_simp; refine hK _ ?_; clear hK K
    refine NB.any_p 34 rfl (by kernel_rfl) (fun K hK => ?_); go_simp; refine hK _ ?_; clear hK K
    refine NB.any_p 35 rfl (by kernel_rfl) (fun K hK => ?_); go_simp; refine hK _ ?_; clear hK K
    refine NB.any_p 36 rfl (by kernel_rfl) (fun K hK => ?_); go_simp; refine hK _ ?_; clear hK K
    refine NB.any_p 37 rfl (by kernel_rfl) (fun K hK => ?_); go_simp; refine hK _ ?_; clear hK K
    refine NB.any_p 38 rfl (by kernel_rfl) (fun K hK => ?_); go_simp; refine hK _ ?_; clear hK K
    refine NB.any_p 39 rfl (by kernel_rfl) (fun K hK => ?_); go_simp; refine hK _ ?_; clear hK K
    refine NB.any_p 40 rfl (by kernel_rfl) (fun K hK => ?_); go_simp; refine hK _ ?_; clear hK K
    refine NB.any_p 41 rfl (by kernel_rfl) (fun K hK => ?_); go_simp; refine hK _ ?_; clear hK K
    refine NB.any_p 42 rfl (by kernel_rfl) (fun K hK => ?_); go_simp; refine hK _ ?_; clear hK K
    refine NB.any_p 43 rfl (by kernel_rfl) (fun K hK => ?_); go_simp; refine hK _ ?_; clear hK K
    refine NB.any_end (by kernel_rfl) ?_
    go_wp2_with fail
    go_ret
    exact ⟨rfl, B3⟩
  have hW2 : decide (0 ≤ m.seg ∧ m.seg < 4) = true := decide_eq_true hg
  by_cases hc : 0 ≤ m.code ∧ m.code < 256
  case neg =>
    have hW3 : decide (0 ≤ m.code ∧ m.code < 256) = false := decide_eq_false hc
    have hq : mcheckM m = 1 := by unfold mcheckM mcheckB limB; rw [hW3]; simp
    rw [hq]
    unfold msgV at RB hT1 B1 ⊢
    simp only [List.toArray] at RB hT1 B1 ⊢
    clear hq
    go_enter Tryd.func17, Tryd.ntmps17
    go_wp2_with fail
    refine NB.wp_region_m (by kernel_rfl) ?_
    have RB2 := RB.below (dB _)
    have hT2 := hT1.grow (dB _)
    have B2 := B1.drew
    clear RB hT1 B1
    generalize hw2 : World.drew _ = w2 at *
    clear hw2
    refine NB.any_p 0 rfl (by kernel_rfl) (fun K hK => ?_); go_simp; refine hK _ ?_; clear hK K
    refine NB.any_r 1 rfl (by kernel_rfl) rfl _ (fun w' hw' => NB.run_op_load rfl rfl Tryd.underlying3 rfl ((RB2.cell 0 _ rfl)) hw') (fun K hK => ?_); go_simp; refine hK _ ?_; clear hK K
    refine NB.any_e 2 rfl (by kernel_rfl) (fun K hK => ?_); unfold NB.moves; go_simp; refine (known_any _ _).mono ?_; rw [hkn]; rintro e w' ⟨rfl, e2⟩; subst w'; refine ⟨_, rfl, Below.refl _ _, hK _ _ ?_⟩; clear hK K
    refine NB.any_p 3 rfl (by kernel_rfl) (fun K hK => ?_); go_simp; refine hK _ ?_; clear hK K
    refine NB.any_p 4 rfl (by kernel_rfl) (fun K hK => ?_); go_simp; refine hK _ ?_; clear hK K
    refine NB.any_r 5 rfl (by kernel_rfl) rfl _ (fun w' hw' => NB.run_op_load_agg rfl rfl Tryd.underlying32 rfl _ _ (0, 0) (RB2) (m := 11) (by kernel_rfl) (by simp) _ rfl hw') (fun K hK => ?_); go_simp; refine hK _ ?_; clear hK K
    refine NB.any_p 7 rfl (by kernel_rfl) (fun K hK => ?_); go_simp; refine hK _ ?_; clear hK K
    refine NB.any_r 8 rfl (by kernel_rfl) rfl _ (fun w' hw' => NB.run_op_load rfl rfl Tryd.underlying3 rfl ((RB2.cell 0 _ rfl)) hw') (fun K hK => ?_); go_simp; refine hK _ ?_; clear hK K
    refine NB.any_p 9 rfl (by kernel_rfl) (fun K hK => ?_); go_simp; refine hK _ ?_; clear hK K
    refine NB.any_r 10 rfl (by kernel_rfl) rfl _ (fun w' hw' => NB.run_op_load rfl rfl Tryd.underlying67 rfl ((HTK.out w2 hT2)) hw') (fun K hK => ?_); go_simp; refine hK _ ?_; clear hK K
    refine NB.any_e 6 rfl (by kernel_rfl) (fun K hK => ?_); unfold NB.moves; go_simp; refine (has_any w2 m av cv ab cb).mono ?_; rintro e w3 ⟨rfl, hb3⟩; refine ⟨_, rfl, hb3, hK _ _ ?_⟩; clear hK K
    have RB3 := RB2.below hb3
    have hT3 := hT2.grow hb3
    have B3 := NB.bel B2 hb3 B2.size
    clear RB2 hT2 B2 hb3
    refine NB.any_p 11 rfl (by kernel_rfl) (fun K hK => ?_); go_simp; refine hK _ ?_; clear hK K
    refine NB.any_p 12 rfl (by kernel_rfl) (fun K hK => ?_); go_simp; refine hK _ ?_; clear hK K
    refine NB.any_p 13 rfl (by kernel_rfl) (fun K hK => ?_); go_simp; refine hK _ ?_; clear hK K
    refine NB.any_p 14 rfl (by kernel_rfl) (fun K hK => ?_); go_simp; refine hK _ ?_; clear hK K
    refine NB.any_p 15 rfl (by kernel_rfl) (fun K hK => ?_); go_simp; refine hK _ ?_; clear hK K
    refine NB.any_r 16 rfl (by kernel_rfl) rfl _ (fun w' hw' => NB.run_op_load rfl rfl Tryd.underlying3 rfl ((RB3.cell 3 _ rfl)) hw') (fun K hK => ?_); go_simp; refine hK _ ?_; clear hK K
    refine NB.any_e 17 rfl (by kernel_rfl) (fun K hK => ?_); unfold NB.moves; go_simp; refine (within_any _ _ _).mono ?_; rw [hW1]; rintro e w' ⟨rfl, e2⟩; subst w'; refine ⟨_, rfl, Below.refl _ _, hK _ _ ?_⟩; clear hK K
    refine NB.any_p 18 rfl (by kernel_rfl) (fun K hK => ?_); go_simp; refine hK _ ?_; clear hK K
    refine NB.any_p 19 rfl (by kernel_rfl) (fun K hK => ?_); go_simp; refine hK _ ?_; clear hK K
    refine NB.any_p 20 rfl (by kernel_rfl) (fun K hK => ?_); go_simp; refine hK _ ?_; clear hK K
    refine NB.any_p 21 rfl (by kernel_rfl) (fun K hK => ?_); go_simp; refine hK _ ?_; clear hK K
    refine NB.any_r 22 rfl (by kernel_rfl) rfl _ (fun w' hw' => NB.run_op_load rfl rfl Tryd.underlying3 rfl ((RB3.cell 4 _ rfl)) hw') (fun K hK => ?_); go_simp; refine hK _ ?_; clear hK K
    refine NB.any_e 23 rfl (by kernel_rfl) (fun K hK => ?_); unfold NB.moves; go_simp; refine (within_any _ _ _).mono ?_; rw [hW2]; rintro e w' ⟨rfl, e2⟩; subst w'; refine ⟨_, rfl, Below.refl _ _, hK _ _ ?_⟩; clear hK K
    refine NB.any_p 24 rfl (by kernel_rfl) (fun K hK => ?_); go_simp; refine hK _ ?_; clear hK K
    refine NB.any_p 25 rfl (by kernel_rfl) (fun K hK => ?_); go_simp; refine hK _ ?_; clear hK K
    refine NB.any_p 26 rfl (by kernel_rfl) (fun K hK => ?_); go_simp; refine hK _ ?_; clear hK K
    refine NB.any_p 27 rfl (by kernel_rfl) (fun K hK => ?_); go_simp; refine hK _ ?_; clear hK K
    refine NB.any_r 28 rfl (by kernel_rfl) rfl _ (fun w' hw' => NB.run_op_load rfl rfl Tryd.underlying3 rfl ((RB3.cell 8 _ rfl)) hw') (fun K hK => ?_); go_simp; refine hK _ ?_; clear hK K
    refine NB.any_e 29 rfl (by kernel_rfl) (fun K hK => ?_); unfold NB.moves; go_simp; refine (within_any _ _ _).mono ?_; rw [hW3]; rintro e w' ⟨rfl, e2⟩; subst w'; refine ⟨_, rfl, Below.refl _ _, hK _ _ ?_⟩; clear hK K
    refine NB.any_p 30 rfl (by kernel_rfl) (fun K hK => ?_); go_simp; refine hK _ ?_; clear hK K
    refine NB.any_p 31 rfl (by kernel_rfl) (fun K hK => ?_); go_simp; refine hK _ ?_; clear hK K
    refine NB.any_p 32 rfl (by kernel_rfl) (fun K hK => ?_); go_simp; refine hK _ ?_; clear hK K
    refine NB.any_p 33 rfl (by kernel_rfl) (fun K hK => ?_); go_simp; refine hK _ ?_; clear hK K
    refine NB.any_p 34 rfl (by kernel_rfl) (fun K hK => ?_); go_simp; refine hK _ ?_; clear hK K
    refine NB.any_p 35 rfl (by kernel_rfl) (fun K hK => ?_); go_simp; refine hK _ ?_; clear hK K
    refine NB.any_p 36 rfl (by kernel_rfl) (fun K hK => ?_); go_simp; refine hK _ ?_; clear hK K
    refine NB.any_p 37 rfl (by kernel_rfl) (fun K hK => ?_); go_simp; refine hK _ ?_; clear hK K
    refine NB.any_p 38 rfl (by kernel_rfl) (fun K hK => ?_); go_simp; refine hK _ ?_; clear hK K
    refine NB.any_p 39 rfl (by kernel_rfl) (fun K hK => ?_); go_simp; refine hK _ ?_; clear hK K
    refine NB.any_p 40 rfl (by kernel_rfl) (fun K hK => ?_); go_simp; refine hK _ ?_; clear hK K
    refine NB.any_p 41 rfl (by kernel_rfl) (fun K hK => ?_); go_simp; refine hK _ ?_; clear hK K
    refine NB.any_p 42 rfl (by kernel_rfl) (fun K hK => ?_); go_simp; refine hK _ ?_; clear hK K
    refine NB.any_p 43 rfl (by kernel_rfl) (fun K hK => ?_); go_simp; refine hK _ ?_; clear hK K
    refine NB.any_end (by kernel_rfl) ?_
    go_wp2_with fail
    go_ret
    exact ⟨rfl, B3⟩
  have hW3 : decide (0 ≤ m.code ∧ m.code < 256) = true := decide_eq_true hc
  by_cases hv : m.vec.length ≤ 256
  case neg =>
    have hvd : decide (m.vec.length ≤ 256) = false := decide_eq_false hv
    have hv1 : ¬ (m.vec.length : Int) ≤ 256 := by omega
    have hq : mcheckM m = 1 := by unfold mcheckM mcheckB limB; rw [hvd]; simp
    rw [hq]
    unfold msgV at RB hT1 B1 ⊢
    simp only [List.toArray] at RB hT1 B1 ⊢
    clear hq
    go_enter Tryd.func17, Tryd.ntmps17
    go_wp2_with fail
    refine NB.wp_region_m (by kernel_rfl) ?_
    have RB2 := RB.below (dB _)
    have hT2 := hT1.grow (dB _)
    have B2 := B1.drew
    clear RB hT1 B1
    generalize hw2 : World.drew _ = w2 at *
    clear hw2
    refine NB.any_p 0 rfl (by kernel_rfl) (fun K hK => ?_); go_simp; refine hK _ ?_; clear hK K
    refine NB.any_r 1 rfl (by kernel_rfl) rfl _ (fun w' hw' => NB.run_op_load rfl rfl Tryd.underlying3 rfl ((RB2.cell 0 _ rfl)) hw') (fun K hK => ?_); go_simp; refine hK _ ?_; clear hK K
    refine NB.any_e 2 rfl (by kernel_rfl) (fun K hK => ?_); unfold NB.moves; go_simp; refine (known_any _ _).mono ?_; rw [hkn]; rintro e w' ⟨rfl, e2⟩; subst w'; refine ⟨_, rfl, Below.refl _ _, hK _ _ ?_⟩; clear hK K
    refine NB.any_p 3 rfl (by kernel_rfl) (fun K hK => ?_); go_simp; refine hK _ ?_; clear hK K
    refine NB.any_p 4 rfl (by kernel_rfl) (fun K hK => ?_); go_simp; refine hK _ ?_; clear hK K
    refine NB.any_r 5 rfl (by kernel_rfl) rfl _ (fun w' hw' => NB.run_op_load_agg rfl rfl Tryd.underlying32 rfl _ _ (0, 0) (RB2) (m := 11) (by kernel_rfl) (by simp) _ rfl hw') (fun K hK => ?_); go_simp; refine hK _ ?_; clear hK K
    refine NB.any_p 7 rfl (by kernel_rfl) (fun K hK => ?_); go_simp; refine hK _ ?_; clear hK K
    refine NB.any_r 8 rfl (by kernel_rfl) rfl _ (fun w' hw' => NB.run_op_load rfl rfl Tryd.underlying3 rfl ((RB2.cell 0 _ rfl)) hw') (fun K hK => ?_); go_simp; refine hK _ ?_; clear hK K
    refine NB.any_p 9 rfl (by kernel_rfl) (fun K hK => ?_); go_simp; refine hK _ ?_; clear hK K
    refine NB.any_r 10 rfl (by kernel_rfl) rfl _ (fun w' hw' => NB.run_op_load rfl rfl Tryd.underlying67 rfl ((HTK.out w2 hT2)) hw') (fun K hK => ?_); go_simp; refine hK _ ?_; clear hK K
    refine NB.any_e 6 rfl (by kernel_rfl) (fun K hK => ?_); unfold NB.moves; go_simp; refine (has_any w2 m av cv ab cb).mono ?_; rintro e w3 ⟨rfl, hb3⟩; refine ⟨_, rfl, hb3, hK _ _ ?_⟩; clear hK K
    have RB3 := RB2.below hb3
    have hT3 := hT2.grow hb3
    have B3 := NB.bel B2 hb3 B2.size
    clear RB2 hT2 B2 hb3
    refine NB.any_p 11 rfl (by kernel_rfl) (fun K hK => ?_); go_simp; refine hK _ ?_; clear hK K
    refine NB.any_p 12 rfl (by kernel_rfl) (fun K hK => ?_); go_simp; refine hK _ ?_; clear hK K
    refine NB.any_p 13 rfl (by kernel_rfl) (fun K hK => ?_); go_simp; refine hK _ ?_; clear hK K
    refine NB.any_p 14 rfl (by kernel_rfl) (fun K hK => ?_); go_simp; refine hK _ ?_; clear hK K
    refine NB.any_p 15 rfl (by kernel_rfl) (fun K hK => ?_); go_simp; refine hK _ ?_; clear hK K
    refine NB.any_r 16 rfl (by kernel_rfl) rfl _ (fun w' hw' => NB.run_op_load rfl rfl Tryd.underlying3 rfl ((RB3.cell 3 _ rfl)) hw') (fun K hK => ?_); go_simp; refine hK _ ?_; clear hK K
    refine NB.any_e 17 rfl (by kernel_rfl) (fun K hK => ?_); unfold NB.moves; go_simp; refine (within_any _ _ _).mono ?_; rw [hW1]; rintro e w' ⟨rfl, e2⟩; subst w'; refine ⟨_, rfl, Below.refl _ _, hK _ _ ?_⟩; clear hK K
    refine NB.any_p 18 rfl (by kernel_rfl) (fun K hK => ?_); go_simp; refine hK _ ?_; clear hK K
    refine NB.any_p 19 rfl (by kernel_rfl) (fun K hK => ?_); go_simp; refine hK _ ?_; clear hK K
    refine NB.any_p 20 rfl (by kernel_rfl) (fun K hK => ?_); go_simp; refine hK _ ?_; clear hK K
    refine NB.any_p 21 rfl (by kernel_rfl) (fun K hK => ?_); go_simp; refine hK _ ?_; clear hK K
    refine NB.any_r 22 rfl (by kernel_rfl) rfl _ (fun w' hw' => NB.run_op_load rfl rfl Tryd.underlying3 rfl ((RB3.cell 4 _ rfl)) hw') (fun K hK => ?_); go_simp; refine hK _ ?_; clear hK K
    refine NB.any_e 23 rfl (by kernel_rfl) (fun K hK => ?_); unfold NB.moves; go_simp; refine (within_any _ _ _).mono ?_; rw [hW2]; rintro e w' ⟨rfl, e2⟩; subst w'; refine ⟨_, rfl, Below.refl _ _, hK _ _ ?_⟩; clear hK K
    refine NB.any_p 24 rfl (by kernel_rfl) (fun K hK => ?_); go_simp; refine hK _ ?_; clear hK K
    refine NB.any_p 25 rfl (by kernel_rfl) (fun K hK => ?_); go_simp; refine hK _ ?_; clear hK K
    refine NB.any_p 26 rfl (by kernel_rfl) (fun K hK => ?_); go_simp; refine hK _ ?_; clear hK K
    refine NB.any_p 27 rfl (by kernel_rfl) (fun K hK => ?_); go_simp; refine hK _ ?_; clear hK K
    refine NB.any_r 28 rfl (by kernel_rfl) rfl _ (fun w' hw' => NB.run_op_load rfl rfl Tryd.underlying3 rfl ((RB3.cell 8 _ rfl)) hw') (fun K hK => ?_); go_simp; refine hK _ ?_; clear hK K
    refine NB.any_e 29 rfl (by kernel_rfl) (fun K hK => ?_); unfold NB.moves; go_simp; refine (within_any _ _ _).mono ?_; rw [hW3]; rintro e w' ⟨rfl, e2⟩; subst w'; refine ⟨_, rfl, Below.refl _ _, hK _ _ ?_⟩; clear hK K
    refine NB.any_p 30 rfl (by kernel_rfl) (fun K hK => ?_); go_simp; refine hK _ ?_; clear hK K
    refine NB.any_p 31 rfl (by kernel_rfl) (fun K hK => ?_); go_simp; refine hK _ ?_; clear hK K
    refine NB.any_p 32 rfl (by kernel_rfl) (fun K hK => ?_); go_simp; refine hK _ ?_; clear hK K
    refine NB.any_p 33 rfl (by kernel_rfl) (fun K hK => ?_); go_simp; refine hK _ ?_; clear hK K
    refine NB.any_r 34 rfl (by kernel_rfl) rfl _ (fun w' hw' => NB.run_op_load rfl rfl Tryd.underlying30 rfl ((RB3.cell 9 _ rfl)) hw') (fun K hK => ?_); go_simp; refine hK _ ?_; clear hK K
    refine NB.any_p 35 rfl (by kernel_rfl) (fun K hK => ?_); go_simp; refine hK _ ?_; clear hK K
    refine NB.any_p 36 rfl (by kernel_rfl) (fun K hK => ?_); go_simp; refine hK _ ?_; clear hK K
    refine NB.any_p 37 rfl (by kernel_rfl) (fun K hK => ?_); go_simp; refine hK _ ?_; clear hK K
    refine NB.any_p 38 rfl (by kernel_rfl) (fun K hK => ?_); go_simp; refine hK _ ?_; clear hK K
    refine NB.any_p 39 rfl (by kernel_rfl) (fun K hK => ?_); go_simp; refine hK _ ?_; clear hK K
    refine NB.any_p 40 rfl (by kernel_rfl) (fun K hK => ?_); go_simp; refine hK _ ?_; clear hK K
    refine NB.any_p 41 rfl (by kernel_rfl) (fun K hK => ?_); go_simp; refine hK _ ?_; clear hK K
    refine NB.any_p 42 rfl (by kernel_rfl) (fun K hK => ?_); go_simp; refine hK _ ?_; clear hK K
    refine NB.any_p 43 rfl (by kernel_rfl) (fun K hK => ?_); go_simp; refine hK _ ?_; clear hK K
    refine NB.any_end (by kernel_rfl) ?_
    go_wp2_with fail
    go_ret
    exact ⟨rfl, B3⟩
  have hvd : decide (m.vec.length ≤ 256) = true := decide_eq_true hv
  have hv1 : (m.vec.length : Int) ≤ 256 := by omega
  have hv2 : decide ((256 : Int) < (m.vec.length : Int)) = false := decide_eq_false (by omega)
  have hv3 : decide (256 < m.vec.length) = false := decide_eq_false (by omega)
  by_cases hb : m.body.length ≤ 32768
  case neg =>
    have hbd : decide (m.body.length ≤ 32768) = false := decide_eq_false hb
    have hb1 : ¬ (m.body.length : Int) ≤ 32768 := by omega
    have hq : mcheckM m = 1 := by unfold mcheckM mcheckB limB; rw [hbd]; simp
    rw [hq]
    unfold msgV at RB hT1 B1 ⊢
    simp only [List.toArray] at RB hT1 B1 ⊢
    clear hq
    go_enter Tryd.func17, Tryd.ntmps17
    go_wp2_with fail
    refine NB.wp_region_m (by kernel_rfl) ?_
    have RB2 := RB.below (dB _)
    have hT2 := hT1.grow (dB _)
    have B2 := B1.drew
    clear RB hT1 B1
    generalize hw2 : World.drew _ = w2 at *
    clear hw2
    refine NB.any_p 0 rfl (by kernel_rfl) (fun K hK => ?_); go_simp; refine hK _ ?_; clear hK K
    refine NB.any_r 1 rfl (by kernel_rfl) rfl _ (fun w' hw' => NB.run_op_load rfl rfl Tryd.underlying3 rfl ((RB2.cell 0 _ rfl)) hw') (fun K hK => ?_); go_simp; refine hK _ ?_; clear hK K
    refine NB.any_e 2 rfl (by kernel_rfl) (fun K hK => ?_); unfold NB.moves; go_simp; refine (known_any _ _).mono ?_; rw [hkn]; rintro e w' ⟨rfl, e2⟩; subst w'; refine ⟨_, rfl, Below.refl _ _, hK _ _ ?_⟩; clear hK K
    refine NB.any_p 3 rfl (by kernel_rfl) (fun K hK => ?_); go_simp; refine hK _ ?_; clear hK K
    refine NB.any_p 4 rfl (by kernel_rfl) (fun K hK => ?_); go_simp; refine hK _ ?_; clear hK K
    refine NB.any_r 5 rfl (by kernel_rfl) rfl _ (fun w' hw' => NB.run_op_load_agg rfl rfl Tryd.underlying32 rfl _ _ (0, 0) (RB2) (m := 11) (by kernel_rfl) (by simp) _ rfl hw') (fun K hK => ?_); go_simp; refine hK _ ?_; clear hK K
    refine NB.any_p 7 rfl (by kernel_rfl) (fun K hK => ?_); go_simp; refine hK _ ?_; clear hK K
    refine NB.any_r 8 rfl (by kernel_rfl) rfl _ (fun w' hw' => NB.run_op_load rfl rfl Tryd.underlying3 rfl ((RB2.cell 0 _ rfl)) hw') (fun K hK => ?_); go_simp; refine hK _ ?_; clear hK K
    refine NB.any_p 9 rfl (by kernel_rfl) (fun K hK => ?_); go_simp; refine hK _ ?_; clear hK K
    refine NB.any_r 10 rfl (by kernel_rfl) rfl _ (fun w' hw' => NB.run_op_load rfl rfl Tryd.underlying67 rfl ((HTK.out w2 hT2)) hw') (fun K hK => ?_); go_simp; refine hK _ ?_; clear hK K
    refine NB.any_e 6 rfl (by kernel_rfl) (fun K hK => ?_); unfold NB.moves; go_simp; refine (has_any w2 m av cv ab cb).mono ?_; rintro e w3 ⟨rfl, hb3⟩; refine ⟨_, rfl, hb3, hK _ _ ?_⟩; clear hK K
    have RB3 := RB2.below hb3
    have hT3 := hT2.grow hb3
    have B3 := NB.bel B2 hb3 B2.size
    clear RB2 hT2 B2 hb3
    refine NB.any_p 11 rfl (by kernel_rfl) (fun K hK => ?_); go_simp; refine hK _ ?_; clear hK K
    refine NB.any_p 12 rfl (by kernel_rfl) (fun K hK => ?_); go_simp; refine hK _ ?_; clear hK K
    refine NB.any_p 13 rfl (by kernel_rfl) (fun K hK => ?_); go_simp; refine hK _ ?_; clear hK K
    refine NB.any_p 14 rfl (by kernel_rfl) (fun K hK => ?_); go_simp; refine hK _ ?_; clear hK K
    refine NB.any_p 15 rfl (by kernel_rfl) (fun K hK => ?_); go_simp; refine hK _ ?_; clear hK K
    refine NB.any_r 16 rfl (by kernel_rfl) rfl _ (fun w' hw' => NB.run_op_load rfl rfl Tryd.underlying3 rfl ((RB3.cell 3 _ rfl)) hw') (fun K hK => ?_); go_simp; refine hK _ ?_; clear hK K
    refine NB.any_e 17 rfl (by kernel_rfl) (fun K hK => ?_); unfold NB.moves; go_simp; refine (within_any _ _ _).mono ?_; rw [hW1]; rintro e w' ⟨rfl, e2⟩; subst w'; refine ⟨_, rfl, Below.refl _ _, hK _ _ ?_⟩; clear hK K
    refine NB.any_p 18 rfl (by kernel_rfl) (fun K hK => ?_); go_simp; refine hK _ ?_; clear hK K
    refine NB.any_p 19 rfl (by kernel_rfl) (fun K hK => ?_); go_simp; refine hK _ ?_; clear hK K
    refine NB.any_p 20 rfl (by kernel_rfl) (fun K hK => ?_); go_simp; refine hK _ ?_; clear hK K
    refine NB.any_p 21 rfl (by kernel_rfl) (fun K hK => ?_); go_simp; refine hK _ ?_; clear hK K
    refine NB.any_r 22 rfl (by kernel_rfl) rfl _ (fun w' hw' => NB.run_op_load rfl rfl Tryd.underlying3 rfl ((RB3.cell 4 _ rfl)) hw') (fun K hK => ?_); go_simp; refine hK _ ?_; clear hK K
    refine NB.any_e 23 rfl (by kernel_rfl) (fun K hK => ?_); unfold NB.moves; go_simp; refine (within_any _ _ _).mono ?_; rw [hW2]; rintro e w' ⟨rfl, e2⟩; subst w'; refine ⟨_, rfl, Below.refl _ _, hK _ _ ?_⟩; clear hK K
    refine NB.any_p 24 rfl (by kernel_rfl) (fun K hK => ?_); go_simp; refine hK _ ?_; clear hK K
    refine NB.any_p 25 rfl (by kernel_rfl) (fun K hK => ?_); go_simp; refine hK _ ?_; clear hK K
    refine NB.any_p 26 rfl (by kernel_rfl) (fun K hK => ?_); go_simp; refine hK _ ?_; clear hK K
    refine NB.any_p 27 rfl (by kernel_rfl) (fun K hK => ?_); go_simp; refine hK _ ?_; clear hK K
    refine NB.any_r 28 rfl (by kernel_rfl) rfl _ (fun w' hw' => NB.run_op_load rfl rfl Tryd.underlying3 rfl ((RB3.cell 8 _ rfl)) hw') (fun K hK => ?_); go_simp; refine hK _ ?_; clear hK K
    refine NB.any_e 29 rfl (by kernel_rfl) (fun K hK => ?_); unfold NB.moves; go_simp; refine (within_any _ _ _).mono ?_; rw [hW3]; rintro e w' ⟨rfl, e2⟩; subst w'; refine ⟨_, rfl, Below.refl _ _, hK _ _ ?_⟩; clear hK K
    refine NB.any_p 30 rfl (by kernel_rfl) (fun K hK => ?_); go_simp; refine hK _ ?_; clear hK K
    refine NB.any_p 31 rfl (by kernel_rfl) (fun K hK => ?_); go_simp; refine hK _ ?_; clear hK K
    refine NB.any_p 32 rfl (by kernel_rfl) (fun K hK => ?_); go_simp; refine hK _ ?_; clear hK K
    refine NB.any_p 33 rfl (by kernel_rfl) (fun K hK => ?_); go_simp; refine hK _ ?_; clear hK K
    refine NB.any_r 34 rfl (by kernel_rfl) rfl _ (fun w' hw' => NB.run_op_load rfl rfl Tryd.underlying30 rfl ((RB3.cell 9 _ rfl)) hw') (fun K hK => ?_); go_simp; refine hK _ ?_; clear hK K
    refine NB.any_p 35 rfl (by kernel_rfl) (fun K hK => ?_); go_simp; refine hK _ ?_; clear hK K
    refine NB.any_p 36 rfl (by kernel_rfl) (fun K hK => ?_); go_simp; refine hK _ ?_; clear hK K
    refine NB.any_p 37 rfl (by kernel_rfl) (fun K hK => ?_); go_simp; refine hK _ ?_; clear hK K
    refine NB.any_p 38 rfl (by kernel_rfl) (fun K hK => ?_); go_simp; refine hK _ ?_; clear hK K
    refine NB.any_p 39 rfl (by kernel_rfl) (fun K hK => ?_); go_simp; refine hK _ ?_; clear hK K
    refine NB.any_r 40 rfl (by kernel_rfl) rfl _ (fun w' hw' => NB.run_op_load rfl rfl Tryd.underlying22 rfl ((RB3.cell 10 _ rfl)) hw') (fun K hK => ?_); go_simp; refine hK _ ?_; clear hK K
    refine NB.any_p 41 rfl (by kernel_rfl) (fun K hK => ?_); go_simp; refine hK _ ?_; clear hK K
    refine NB.any_p 42 rfl (by kernel_rfl) (fun K hK => ?_); go_simp; refine hK _ ?_; clear hK K
    refine NB.any_p 43 rfl (by kernel_rfl) (fun K hK => ?_); go_simp; refine hK _ ?_; clear hK K
    refine NB.any_end (by kernel_rfl) ?_
    go_wp2_with fail
    go_ret
    exact ⟨rfl, B3⟩
  have hbd : decide (m.body.length ≤ 32768) = true := decide_eq_true hb
  have hb1 : (m.body.length : Int) ≤ 32768 := by omega
  have hq : mcheckM m = 0 := by unfold mcheckM mcheckB limB; rw [hk, ho, hW1, hW2, hW3, hvd, hbd]; rfl
  rw [hq]
  unfold msgV at RB hT1 B1 ⊢
  simp only [List.toArray] at RB hT1 B1 ⊢
  clear hq
  go_enter Tryd.func17, Tryd.ntmps17
  go_wp2_with fail
  refine NB.wp_region_m (by kernel_rfl) ?_
  have RB2 := RB.below (dB _)
  have hT2 := hT1.grow (dB _)
  have B2 := B1.drew
  clear RB hT1 B1
  generalize hw2 : World.drew _ = w2 at *
  clear hw2
  refine NB.any_p 0 rfl (by kernel_rfl) (fun K hK => ?_); go_simp; refine hK _ ?_; clear hK K
  refine NB.any_r 1 rfl (by kernel_rfl) rfl _ (fun w' hw' => NB.run_op_load rfl rfl Tryd.underlying3 rfl ((RB2.cell 0 _ rfl)) hw') (fun K hK => ?_); go_simp; refine hK _ ?_; clear hK K
  refine NB.any_e 2 rfl (by kernel_rfl) (fun K hK => ?_); unfold NB.moves; go_simp; refine (known_any _ _).mono ?_; rw [hkn]; rintro e w' ⟨rfl, e2⟩; subst w'; refine ⟨_, rfl, Below.refl _ _, hK _ _ ?_⟩; clear hK K
  refine NB.any_p 3 rfl (by kernel_rfl) (fun K hK => ?_); go_simp; refine hK _ ?_; clear hK K
  refine NB.any_p 4 rfl (by kernel_rfl) (fun K hK => ?_); go_simp; refine hK _ ?_; clear hK K
  refine NB.any_r 5 rfl (by kernel_rfl) rfl _ (fun w' hw' => NB.run_op_load_agg rfl rfl Tryd.underlying32 rfl _ _ (0, 0) (RB2) (m := 11) (by kernel_rfl) (by simp) _ rfl hw') (fun K hK => ?_); go_simp; refine hK _ ?_; clear hK K
  refine NB.any_p 7 rfl (by kernel_rfl) (fun K hK => ?_); go_simp; refine hK _ ?_; clear hK K
  refine NB.any_r 8 rfl (by kernel_rfl) rfl _ (fun w' hw' => NB.run_op_load rfl rfl Tryd.underlying3 rfl ((RB2.cell 0 _ rfl)) hw') (fun K hK => ?_); go_simp; refine hK _ ?_; clear hK K
  refine NB.any_p 9 rfl (by kernel_rfl) (fun K hK => ?_); go_simp; refine hK _ ?_; clear hK K
  refine NB.any_r 10 rfl (by kernel_rfl) rfl _ (fun w' hw' => NB.run_op_load rfl rfl Tryd.underlying67 rfl ((HTK.out w2 hT2)) hw') (fun K hK => ?_); go_simp; refine hK _ ?_; clear hK K
  refine NB.any_e 6 rfl (by kernel_rfl) (fun K hK => ?_); unfold NB.moves; go_simp; refine (has_any w2 m av cv ab cb).mono ?_; rintro e w3 ⟨rfl, hb3⟩; refine ⟨_, rfl, hb3, hK _ _ ?_⟩; clear hK K
  have RB3 := RB2.below hb3
  have hT3 := hT2.grow hb3
  have B3 := NB.bel B2 hb3 B2.size
  clear RB2 hT2 B2 hb3
  refine NB.any_p 11 rfl (by kernel_rfl) (fun K hK => ?_); go_simp; refine hK _ ?_; clear hK K
  refine NB.any_p 12 rfl (by kernel_rfl) (fun K hK => ?_); go_simp; refine hK _ ?_; clear hK K
  refine NB.any_p 13 rfl (by kernel_rfl) (fun K hK => ?_); go_simp; refine hK _ ?_; clear hK K
  refine NB.any_p 14 rfl (by kernel_rfl) (fun K hK => ?_); go_simp; refine hK _ ?_; clear hK K
  refine NB.any_p 15 rfl (by kernel_rfl) (fun K hK => ?_); go_simp; refine hK _ ?_; clear hK K
  refine NB.any_r 16 rfl (by kernel_rfl) rfl _ (fun w' hw' => NB.run_op_load rfl rfl Tryd.underlying3 rfl ((RB3.cell 3 _ rfl)) hw') (fun K hK => ?_); go_simp; refine hK _ ?_; clear hK K
  refine NB.any_e 17 rfl (by kernel_rfl) (fun K hK => ?_); unfold NB.moves; go_simp; refine (within_any _ _ _).mono ?_; rw [hW1]; rintro e w' ⟨rfl, e2⟩; subst w'; refine ⟨_, rfl, Below.refl _ _, hK _ _ ?_⟩; clear hK K
  refine NB.any_p 18 rfl (by kernel_rfl) (fun K hK => ?_); go_simp; refine hK _ ?_; clear hK K
  refine NB.any_p 19 rfl (by kernel_rfl) (fun K hK => ?_); go_simp; refine hK _ ?_; clear hK K
  refine NB.any_p 20 rfl (by kernel_rfl) (fun K hK => ?_); go_simp; refine hK _ ?_; clear hK K
  refine NB.any_p 21 rfl (by kernel_rfl) (fun K hK => ?_); go_simp; refine hK _ ?_; clear hK K
  refine NB.any_r 22 rfl (by kernel_rfl) rfl _ (fun w' hw' => NB.run_op_load rfl rfl Tryd.underlying3 rfl ((RB3.cell 4 _ rfl)) hw') (fun K hK => ?_); go_simp; refine hK _ ?_; clear hK K
  refine NB.any_e 23 rfl (by kernel_rfl) (fun K hK => ?_); unfold NB.moves; go_simp; refine (within_any _ _ _).mono ?_; rw [hW2]; rintro e w' ⟨rfl, e2⟩; subst w'; refine ⟨_, rfl, Below.refl _ _, hK _ _ ?_⟩; clear hK K
  refine NB.any_p 24 rfl (by kernel_rfl) (fun K hK => ?_); go_simp; refine hK _ ?_; clear hK K
  refine NB.any_p 25 rfl (by kernel_rfl) (fun K hK => ?_); go_simp; refine hK _ ?_; clear hK K
  refine NB.any_p 26 rfl (by kernel_rfl) (fun K hK => ?_); go_simp; refine hK _ ?_; clear hK K
  refine NB.any_p 27 rfl (by kernel_rfl) (fun K hK => ?_); go_simp; refine hK _ ?_; clear hK K
  refine NB.any_r 28 rfl (by kernel_rfl) rfl _ (fun w' hw' => NB.run_op_load rfl rfl Tryd.underlying3 rfl ((RB3.cell 8 _ rfl)) hw') (fun K hK => ?_); go_simp; refine hK _ ?_; clear hK K
  refine NB.any_e 29 rfl (by kernel_rfl) (fun K hK => ?_); unfold NB.moves; go_simp; refine (within_any _ _ _).mono ?_; rw [hW3]; rintro e w' ⟨rfl, e2⟩; subst w'; refine ⟨_, rfl, Below.refl _ _, hK _ _ ?_⟩; clear hK K
  refine NB.any_p 30 rfl (by kernel_rfl) (fun K hK => ?_); go_simp; refine hK _ ?_; clear hK K
  refine NB.any_p 31 rfl (by kernel_rfl) (fun K hK => ?_); go_simp; refine hK _ ?_; clear hK K
  refine NB.any_p 32 rfl (by kernel_rfl) (fun K hK => ?_); go_simp; refine hK _ ?_; clear hK K
  refine NB.any_p 33 rfl (by kernel_rfl) (fun K hK => ?_); go_simp; refine hK _ ?_; clear hK K
  refine NB.any_r 34 rfl (by kernel_rfl) rfl _ (fun w' hw' => NB.run_op_load rfl rfl Tryd.underlying30 rfl ((RB3.cell 9 _ rfl)) hw') (fun K hK => ?_); go_simp; refine hK _ ?_; clear hK K
  refine NB.any_p 35 rfl (by kernel_rfl) (fun K hK => ?_); go_simp; refine hK _ ?_; clear hK K
  refine NB.any_p 36 rfl (by kernel_rfl) (fun K hK => ?_); go_simp; refine hK _ ?_; clear hK K
  refine NB.any_p 37 rfl (by kernel_rfl) (fun K hK => ?_); go_simp; refine hK _ ?_; clear hK K
  refine NB.any_p 38 rfl (by kernel_rfl) (fun K hK => ?_); go_simp; refine hK _ ?_; clear hK K
  refine NB.any_p 39 rfl (by kernel_rfl) (fun K hK => ?_); go_simp; refine hK _ ?_; clear hK K
  refine NB.any_r 40 rfl (by kernel_rfl) rfl _ (fun w' hw' => NB.run_op_load rfl rfl Tryd.underlying22 rfl ((RB3.cell 10 _ rfl)) hw') (fun K hK => ?_); go_simp; refine hK _ ?_; clear hK K
  refine NB.any_p 41 rfl (by kernel_rfl) (fun K hK => ?_); go_simp; refine hK _ ?_; clear hK K
  refine NB.any_p 42 rfl (by kernel_rfl) (fun K hK => ?_); go_simp; refine hK _ ?_; clear hK K
  refine NB.any_p 43 rfl (by kernel_rfl) (fun K hK => ?_); go_simp; refine hK _ ?_; clear hK K
  refine NB.any_end (by kernel_rfl) ?_
  go_wp2_with fail
  go_ret
  exact ⟨rfl, B3⟩
end Go.Proofs.YtadgokegjmigoaaDoor
