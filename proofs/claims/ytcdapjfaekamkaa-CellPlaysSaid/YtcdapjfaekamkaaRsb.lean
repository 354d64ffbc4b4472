/- The cell's reference, walked: a number of eight bytes, a number's eight bytes, is a block right, a block. -/
import Derived.Test.YtcdapjfaekamkaaRsa
import Derived.Test.YtcdapjfaekamkaaCelq
import Derived.Test.YtcdapjfaekamkaaStr
import Derived.Test.YtcdapjfaekamkaaAny
namespace Go.Proofs.Ytcdapjfaekamkaa
open Go.RowKit
open Go.NB.Crc
open Go.NB (Rd Dk Kp Stp Off Dis val Ce footC)

set_option maxHeartbeats 1000000 in
theorem rnumber_s (w : World) (s : ByteArray) (h8 : 8 ≤ s.size) (hs : s.size ≤ maxLen) :
    Calls Try.prog 37 #[.string s] w fun e w' => e = .returned (.int .u64 (num8 s.data.toList : Int)) ∧ w' = w := by
  unfold maxLen at hs
  have hsl : s.data.toList.length = s.size := by simp
  have hvl : ∀ k, k ≤ 8 → val (s.data.toList.take k) < 256 ^ k := fun k hk => by
    have := NB.val_lt (s.data.toList.take k)
    rwa [List.length_take, Nat.min_eq_left (by omega)] at this
  have hfin : num8 s.data.toList = val (s.data.toList.take 8) := rfl
  generalize num8 s.data.toList = X8 at *
  have HF := Go.Lib.hid hfin
  have HVL := Go.Lib.hid hvl
  have HSL := Go.Lib.hid hsl
  clear hfin hvl hsl
  go_enter Try.func37, Try.ntmps37
  go_wp2
  go_loop [3, 4] (fun x i => ∃ k : Nat, k ≤ 8 ∧ i = .int .i64 k ∧ ∃ X : Nat, X = val (s.data.toList.take k) ∧ x = .int .u64 (X : Int)) (fun _ i => 8 - (intOf i).toNat)
  case atStart => exact ⟨0, by omega, rfl, 0, rfl, rfl⟩
  case round =>
    obtain ⟨k, hk, rfl, X, hX, rfl⟩ := hrel
    by_cases hlt : k < 8
    · have hks : k < s.size := by omega
      have hki : (k : Int) < 8 := by omega
      have hsk := bget s k hks
      have hvs := val_take s.data.toList k (by rw [HSL.out]; omega)
      have hX7 : X < 256 ^ 7 := by rw [hX]; exact Nat.lt_of_lt_of_le (HVL.out k (by omega)) (Nat.pow_le_pow_right (by omega) (by omega))
      rw [hsk, ← hX] at hvs
      have HVS := Go.Lib.hid hvs
      clear hX hvs hsk
      have hX7' : X < 72057594037927936 := by simpa using hX7
      clear hX7
      go_wp2
      refine ⟨⟨k + 1, by omega, by simp, X * 256 + s[k].toNat, HVS.out.symm, ?_⟩, by simp [intOf]; omega⟩
      have hz := s[k].toNat_lt
      rw [IntKind.wrap_u64, IntKind.wrap_u64]
      congr 1
      omega
    · obtain rfl : k = 8 := by omega
      go_wp2
      go_ret
      rw [HF.out, ← hX]
      exact ⟨rfl, rfl⟩
theorem rnumber_l (w : World) (l : List UInt8) (h8 : 8 ≤ l.length) (hs : l.length ≤ 1000000) :
    Calls Try.prog 37 #[.string ⟨l.toArray⟩] w fun e w' => e = .returned (.int .u64 (num8 l : Int)) ∧ w' = w := by
  have := rnumber_s w ⟨l.toArray⟩ (by show 8 ≤ l.toArray.size; simpa using h8) (by unfold maxLen; show l.toArray.size ≤ _; simp; omega)
  simpa using this

theorem four_stamp (x : Nat) (hx : x < 18446744073709551616) : four (x / 4294967296) ++ four (x % 4294967296) = stamp8 x := by
  have e : stamp8 x = [UInt8.ofNat (x / 256 ^ 7 % 256), UInt8.ofNat (x / 256 ^ 6 % 256), UInt8.ofNat (x / 256 ^ 5 % 256), UInt8.ofNat (x / 256 ^ 4 % 256), UInt8.ofNat (x / 256 ^ 3 % 256), UInt8.ofNat (x / 256 ^ 2 % 256), UInt8.ofNat (x / 256 ^ 1 % 256), UInt8.ofNat (x / 256 ^ 0 % 256)] := rfl
  have h : ∀ a b : Nat, a % 256 = b → UInt8.ofNat a = UInt8.ofNat b := fun a b h => by
    apply UInt8.toNat_inj.1
    rw [UInt8.toNat_ofNat', UInt8.toNat_ofNat', ← h]
    simp
  rw [e, four, four]
  simp only [List.cons_append, List.nil_append, Nat.reducePow, List.cons.injEq, and_true]
  refine ⟨h _ _ ?_, h _ _ ?_, h _ _ ?_, h _ _ ?_, h _ _ ?_, h _ _ ?_, h _ _ ?_, h _ _ ?_⟩ <;> omega
set_option maxHeartbeats 1000000 in
theorem reight_any (w : World) (x : Nat) (hx : x < 18446744073709551616) :
    Calls Try.prog 40 #[.int .u64 (x : Int)] w fun e w' => e = .returned (strL (stamp8 x)) ∧ Below w.heap.size w w' := by
  rw [← four_stamp x hx]
  obtain ⟨A, hA⟩ : ∃ A, x / 4294967296 = A := ⟨_, rfl⟩
  obtain ⟨B, hB⟩ : ∃ B, x % 4294967296 = B := ⟨_, rfl⟩
  rw [hA, hB]
  have hAi : (x : Int) / 4294967296 = (A : Int) := by omega
  have hBi : (x : Int) % 4294967296 = (B : Int) := by omega
  have hAl : A < 4294967296 := by omega
  have hBl : B < 4294967296 := by omega
  have hwA : IntKind.u32.wrap (A : Int) = (A : Int) := by rw [IntKind.wrap_u32]; omega
  have hwB : IntKind.u32.wrap (B : Int) = (B : Int) := by rw [IntKind.wrap_u32]; omega
  have hwA2 : (A : Int) % 4294967296 = (A : Int) := by omega
  have hwB2 : (B : Int) % 4294967296 = (B : Int) := by omega
  clear hA hB
  go_enter Try.func40, Try.ntmps40
  go_wp2_with fail
  go_at_call 51
  refine (rfour_any _ A hAl).mono ?_
  rintro e w1 ⟨rfl, hb1⟩
  go_wp2_with fail
  go_at_call 51
  refine (rfour_any _ B hBl).mono ?_
  rintro e w2 ⟨rfl, hb2⟩
  go_wp2_with fail
  go_ret
  exact ⟨rfl, bel hb1 hb2 hb1.size⟩

set_option maxRecDepth 100000 in
set_option maxHeartbeats 4000000 in
theorem rright8_any (w : World) (l : List UInt8) (h64 : l.length = 64) :
    Calls Try.prog 38 #[.string ⟨l.toArray⟩] w fun e w' => e = .returned (.bool (wholeL l)) ∧ Below w.heap.size w w' := by
  have ht64 : l.take 64 = l := List.take_of_length_le (by omega)
  have hks : 8 < (⟨l.toArray⟩ : ByteArray).size := by show 8 < l.toArray.size; simp; omega
  have hy : (⟨l.toArray⟩ : ByteArray)[8]'hks = l.getD 8 0 := by
    have := bget ⟨l.toArray⟩ 8 hks
    rw [← this]
  obtain ⟨y, hyy⟩ : ∃ y, l.getD 8 0 = y := ⟨_, rfl⟩
  rw [hyy] at hy
  obtain ⟨M, hM⟩ : ∃ M, num8 l = M := ⟨_, rfl⟩
  have hr := fun w => rright_any w (l.take 56) (by rw [List.length_take]; omega)
  rw [rright_eq] at hr
  have HRN : Hid (∀ w, Calls Try.prog 37 #[.string ⟨l.toArray⟩] w fun e w' => e = .returned (.int .u64 (M : Int)) ∧ w' = w) := Go.Lib.hid (fun w => by rw [← hM]; exact rnumber_l w l (by omega) (by omega))
  have hW : wholeL l = ((l.take 8 == l.drop 56) && rightL (l.take 56) && decide (y.toNat ≤ 43) && decide (0 < M)) := by rw [wholeL, hyy, hM]
  rw [hW]
  have h56 : (56 : Int) ≤ 64 := by omega
  clear hW hM hyy
  cases hR : rightL (l.take 56) with
  | false =>
    rw [hR] at hr
    have HR := Go.Lib.hid hr
    clear hr
    have e1 : ((l.take 8 == l.drop 56) && false && decide (y.toNat ≤ 43) && decide (0 < M)) = false := by simp
    rw [e1]
    clear e1
    go_enter Try.func38, Try.ntmps38
    go_wp2_with fail
    go_at_call 50
    refine (HR.out _).mono ?_
    rintro e w1 ⟨rfl, hb1⟩
    go_wp2_with fail
    refine NB.wp_region_m (by kernel_rfl) ?_
    have B2 := hb1.drew
    clear hb1
    generalize w1.drew = w2 at *
    refine NB.any_p 0 rfl (by kernel_rfl) (fun K hK => ?_); go_simp; refine hK _ ?_; clear hK K
    refine NB.any_p 1 rfl (by kernel_rfl) (fun K hK => ?_); go_simp; refine hK _ ?_; clear hK K
    refine NB.any_p 2 rfl (by kernel_rfl) (fun K hK => ?_); go_simp; refine hK _ ?_; clear hK K
    refine NB.any_p 3 rfl (by kernel_rfl) (fun K hK => ?_); go_simp; refine hK _ ?_; clear hK K
    refine NB.any_p 4 rfl (by kernel_rfl) (fun K hK => ?_); go_simp; refine hK _ ?_; clear hK K
    refine NB.any_p 5 rfl (by kernel_rfl) (fun K hK => ?_); go_simp; refine hK _ ?_; clear hK K
    refine NB.any_p 6 rfl (by kernel_rfl) (fun K hK => ?_); go_simp; refine hK _ ?_; clear hK K
    refine NB.any_p 7 rfl (by kernel_rfl) (fun K hK => ?_); go_simp; refine hK _ ?_; clear hK K
    refine NB.any_p 8 rfl (by kernel_rfl) (fun K hK => ?_); go_simp; refine hK _ ?_; clear hK K
    refine NB.any_p 9 rfl (by kernel_rfl) (fun K hK => ?_); go_simp; refine hK _ ?_; clear hK K
    refine NB.any_p 10 rfl (by kernel_rfl) (fun K hK => ?_); go_simp; refine hK _ ?_; clear hK K
    refine NB.any_p 11 rfl (by kernel_rfl) (fun K hK => ?_); go_simp; refine hK _ ?_; clear hK K
    refine NB.any_p 12 rfl (by kernel_rfl) (fun K hK => ?_); go_simp; refine hK _ ?_; clear hK K
    refine NB.any_p 13 rfl (by kernel_rfl) (fun K hK => ?_); go_simp; refine hK _ ?_; clear hK K
    refine NB.any_p 14 rfl (by kernel_rfl) (fun K hK => ?_); go_simp; refine hK _ ?_; clear hK K
    refine NB.any_e 15 rfl (by kernel_rfl) (fun K hK => ?_); go_simp; refine hK _ _ ?_; clear hK K
    refine NB.any_p 16 rfl (by kernel_rfl) (fun K hK => ?_); go_simp; refine hK _ ?_; clear hK K
    refine NB.any_p 17 rfl (by kernel_rfl) (fun K hK => ?_); go_simp; refine hK _ ?_; clear hK K
    refine NB.any_p 18 rfl (by kernel_rfl) (fun K hK => ?_); go_simp; refine hK _ ?_; clear hK K
    refine NB.any_end (by kernel_rfl) ?_
    go_wp2_with fail
    go_ret
    exact ⟨rfl, B2⟩
  | true =>
  rw [hR] at hr
  have HR := Go.Lib.hid hr
  clear hr
  cases hE : (l.take 8 == l.drop 56) with
  | false =>
    have e1 : (false && true && decide (y.toNat ≤ 43) && decide (0 < M)) = false := by simp
    rw [e1]
    clear e1
    go_enter Try.func38, Try.ntmps38
    go_wp2_with fail
    go_at_call 50
    refine (HR.out _).mono ?_
    rintro e w1 ⟨rfl, hb1⟩
    go_wp2_with fail
    refine NB.wp_region_m (by kernel_rfl) ?_
    have B2 := hb1.drew
    clear hb1
    generalize w1.drew = w2 at *
    refine NB.any_p 0 rfl (by kernel_rfl) (fun K hK => ?_); go_simp; refine hK _ ?_; clear hK K
    refine NB.any_p 1 rfl (by kernel_rfl) (fun K hK => ?_); go_simp; refine hK _ ?_; clear hK K
    refine NB.any_p 2 rfl (by kernel_rfl) (fun K hK => ?_); go_simp; refine hK _ ?_; clear hK K
    refine NB.any_p 3 rfl (by kernel_rfl) (fun K hK => ?_); go_simp; refine hK _ ?_; clear hK K
    refine NB.any_p 4 rfl (by kernel_rfl) (fun K hK => ?_); go_simp; refine hK _ ?_; clear hK K
    refine NB.any_p 5 rfl (by kernel_rfl) (fun K hK => ?_); go_simp; refine hK _ ?_; clear hK K
    refine NB.any_p 6 rfl (by kernel_rfl) (fun K hK => ?_); go_simp; refine hK _ ?_; clear hK K
    refine NB.any_p 7 rfl (by kernel_rfl) (fun K hK => ?_); go_simp; refine hK _ ?_; clear hK K
    refine NB.any_p 8 rfl (by kernel_rfl) (fun K hK => ?_); go_simp; refine hK _ ?_; clear hK K
    refine NB.any_p 9 rfl (by kernel_rfl) (fun K hK => ?_); go_simp; refine hK _ ?_; clear hK K
    refine NB.any_p 10 rfl (by kernel_rfl) (fun K hK => ?_); go_simp; refine hK _ ?_; clear hK K
    refine NB.any_p 11 rfl (by kernel_rfl) (fun K hK => ?_); go_simp; refine hK _ ?_; clear hK K
    refine NB.any_p 12 rfl (by kernel_rfl) (fun K hK => ?_); go_simp; refine hK _ ?_; clear hK K
    refine NB.any_p 13 rfl (by kernel_rfl) (fun K hK => ?_); go_simp; refine hK _ ?_; clear hK K
    refine NB.any_p 14 rfl (by kernel_rfl) (fun K hK => ?_); go_simp; refine hK _ ?_; clear hK K
    refine NB.any_e 15 rfl (by kernel_rfl) (fun K hK => ?_); go_simp; refine hK _ _ ?_; clear hK K
    refine NB.any_p 16 rfl (by kernel_rfl) (fun K hK => ?_); go_simp; refine hK _ ?_; clear hK K
    refine NB.any_p 17 rfl (by kernel_rfl) (fun K hK => ?_); go_simp; refine hK _ ?_; clear hK K
    refine NB.any_p 18 rfl (by kernel_rfl) (fun K hK => ?_); go_simp; refine hK _ ?_; clear hK K
    refine NB.any_end (by kernel_rfl) ?_
    go_wp2_with fail
    go_ret
    exact ⟨rfl, B2⟩
  | true =>
  by_cases hy4 : y.toNat ≤ 43
  case neg =>
    have e1 : (true && true && decide (y.toNat ≤ 43) && decide (0 < M)) = false := by simp [hy4]
    rw [e1]
    have hyi : ((y.toNat : Int) < 44) = False := eq_false (by omega)
    clear e1
    go_enter Try.func38, Try.ntmps38
    go_wp2_with fail
    go_at_call 50
    refine (HR.out _).mono ?_
    rintro e w1 ⟨rfl, hb1⟩
    go_wp2_with fail
    refine NB.wp_region_m (by kernel_rfl) ?_
    have B2 := hb1.drew
    clear hb1
    generalize w1.drew = w2 at *
    refine NB.any_p 0 rfl (by kernel_rfl) (fun K hK => ?_); go_simp; refine hK _ ?_; clear hK K
    refine NB.any_p 1 rfl (by kernel_rfl) (fun K hK => ?_); go_simp; refine hK _ ?_; clear hK K
    refine NB.any_p 2 rfl (by kernel_rfl) (fun K hK => ?_); go_simp; refine hK _ ?_; clear hK K
    refine NB.any_p 3 rfl (by kernel_rfl) (fun K hK => ?_); go_simp; refine hK _ ?_; clear hK K
    refine NB.any_p 4 rfl (by kernel_rfl) (fun K hK => ?_); go_simp; refine hK _ ?_; clear hK K
    refine NB.any_p 5 rfl (by kernel_rfl) (fun K hK => ?_); go_simp; refine hK _ ?_; clear hK K
    refine NB.any_p 6 rfl (by kernel_rfl) (fun K hK => ?_); go_simp; refine hK _ ?_; clear hK K
    refine NB.any_p 7 rfl (by kernel_rfl) (fun K hK => ?_); go_simp; refine hK _ ?_; clear hK K
    refine NB.any_p 8 rfl (by kernel_rfl) (fun K hK => ?_); go_simp; refine hK _ ?_; clear hK K
    refine NB.any_p 9 rfl (by kernel_rfl) (fun K hK => ?_); go_simp; refine hK _ ?_; clear hK K
    refine NB.any_p 10 rfl (by kernel_rfl) (fun K hK => ?_); go_simp; refine hK _ ?_; clear hK K
    refine NB.any_p 11 rfl (by kernel_rfl) (fun K hK => ?_); go_simp; refine hK _ ?_; clear hK K
    refine NB.any_p 12 rfl (by kernel_rfl) (fun K hK => ?_); go_simp; refine hK _ ?_; clear hK K
    refine NB.any_p 13 rfl (by kernel_rfl) (fun K hK => ?_); go_simp; refine hK _ ?_; clear hK K
    refine NB.any_p 14 rfl (by kernel_rfl) (fun K hK => ?_); go_simp; refine hK _ ?_; clear hK K
    refine NB.any_e 15 rfl (by kernel_rfl) (fun K hK => ?_); go_simp; refine hK _ _ ?_; clear hK K
    refine NB.any_p 16 rfl (by kernel_rfl) (fun K hK => ?_); go_simp; refine hK _ ?_; clear hK K
    refine NB.any_p 17 rfl (by kernel_rfl) (fun K hK => ?_); go_simp; refine hK _ ?_; clear hK K
    refine NB.any_p 18 rfl (by kernel_rfl) (fun K hK => ?_); go_simp; refine hK _ ?_; clear hK K
    refine NB.any_end (by kernel_rfl) ?_
    go_wp2_with fail
    go_ret
    exact ⟨rfl, B2⟩
  case pos =>
    have e1 : (true && true && decide (y.toNat ≤ 43) && decide (0 < M)) = ((M : Int) != 0) := by
      rcases Nat.eq_zero_or_pos M with h0 | h0
      · subst h0; simp
      · have h1 : ¬ M = 0 := by omega
        simp [hy4, h0, h1]
    rw [e1]
    have hyi : (y.toNat : Int) < 44 := by omega
    clear e1
    go_enter Try.func38, Try.ntmps38
    go_wp2_with fail
    go_at_call 50
    refine (HR.out _).mono ?_
    rintro e w1 ⟨rfl, hb1⟩
    go_wp2_with fail
    refine NB.wp_region_m (by kernel_rfl) ?_
    have B2 := hb1.drew
    clear hb1
    generalize w1.drew = w2 at *
    refine NB.any_p 0 rfl (by kernel_rfl) (fun K hK => ?_); go_simp; refine hK _ ?_; clear hK K
    refine NB.any_p 1 rfl (by kernel_rfl) (fun K hK => ?_); go_simp; refine hK _ ?_; clear hK K
    refine NB.any_p 2 rfl (by kernel_rfl) (fun K hK => ?_); go_simp; refine hK _ ?_; clear hK K
    refine NB.any_p 3 rfl (by kernel_rfl) (fun K hK => ?_); go_simp; refine hK _ ?_; clear hK K
    refine NB.any_p 4 rfl (by kernel_rfl) (fun K hK => ?_); go_simp; refine hK _ ?_; clear hK K
    refine NB.any_p 5 rfl (by kernel_rfl) (fun K hK => ?_); go_simp; refine hK _ ?_; clear hK K
    refine NB.any_p 6 rfl (by kernel_rfl) (fun K hK => ?_); go_simp; refine hK _ ?_; clear hK K
    refine NB.any_p 7 rfl (by kernel_rfl) (fun K hK => ?_); go_simp; refine hK _ ?_; clear hK K
    refine NB.any_p 8 rfl (by kernel_rfl) (fun K hK => ?_); go_simp; refine hK _ ?_; clear hK K
    refine NB.any_p 9 rfl (by kernel_rfl) (fun K hK => ?_); go_simp; refine hK _ ?_; clear hK K
    refine NB.any_p 10 rfl (by kernel_rfl) (fun K hK => ?_); go_simp; refine hK _ ?_; clear hK K
    refine NB.any_p 11 rfl (by kernel_rfl) (fun K hK => ?_); go_simp; refine hK _ ?_; clear hK K
    refine NB.any_p 12 rfl (by kernel_rfl) (fun K hK => ?_); go_simp; refine hK _ ?_; clear hK K
    refine NB.any_p 13 rfl (by kernel_rfl) (fun K hK => ?_); go_simp; refine hK _ ?_; clear hK K
    refine NB.any_p 14 rfl (by kernel_rfl) (fun K hK => ?_); go_simp; refine hK _ ?_; clear hK K
    refine NB.any_e 15 rfl (by kernel_rfl) (fun K hK => ?_); unfold NB.moves; go_simp; refine (HRN.out _).mono ?_; rintro e w' ⟨rfl, e2⟩; subst w'; refine ⟨_, rfl, Below.refl _ _, hK _ _ ?_⟩; clear hK K
    refine NB.any_p 16 rfl (by kernel_rfl) (fun K hK => ?_); go_simp; refine hK _ ?_; clear hK K
    refine NB.any_p 17 rfl (by kernel_rfl) (fun K hK => ?_); go_simp; refine hK _ ?_; clear hK K
    refine NB.any_p 18 rfl (by kernel_rfl) (fun K hK => ?_); go_simp; refine hK _ ?_; clear hK K
    refine NB.any_end (by kernel_rfl) ?_
    go_wp2_with fail
    go_ret
    exact ⟨rfl, B2⟩
end Go.Proofs.Ytcdapjfaekamkaa
