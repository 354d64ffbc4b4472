/- The segment's small functions, walked: a number of four bytes. -/
import Derived.Test.YtjfidhjnbcmhfaaDsx
import Derived.Test.YtjfidhjnbcmhfaaSum
import Derived.Test.YtjfidhjnbcmhfaaNum
import Derived.Test.YtjfidhjnbcmhfaaAny
import Derived.Test.YtjfidhjnbcmhfaaSgm
namespace Go.Proofs.Ytjfidhjnbcmhfaa
open Go.RowKit
open Go.NB (Rd Dk Kp Stp Off Dis val)

theorem step_or4 (x : Nat) (c : Nat) (hx : x < 256 ^ 7) (hc : c < 256) : bits .or .u64 (IntKind.u64.wrap ((x : Int) * 256)) (IntKind.u64.wrap (c : Int)) = ((x * 256 + c : Nat) : Int) := by
  have hx' : x < 72057594037927936 := by simpa using hx
  have w1 : IntKind.u64.wrap ((x : Int) * 256) = (x : Int) * 256 := by rw [IntKind.wrap_u64]; omega
  have w2 : IntKind.u64.wrap (c : Int) = (c : Int) := by rw [IntKind.wrap_u64]; omega
  rw [w1, w2, bits_join .u64 64 (by decide) (fun n h0 h1 => by rw [IntKind.wrap_u64]; omega) 8 _ _ (by omega) (by omega) (by omega) (by omega) (by omega) (by omega)]
  omega
theorem val_take4 (l : List UInt8) (k : Nat) (h : k < l.length) : val (l.take (k + 1)) = val (l.take k) * 256 + (l.getD k 0).toNat := by
  rw [NB.take_getD l k h (d := 0), NB.val_snoc]

theorem num4_lt (l : List UInt8) : num4 l < 4294967296 := by
  have h := NB.val_lt (l.take 4)
  have h2 : (l.take 4).length ≤ 4 := by rw [List.length_take]; omega
  exact Nat.lt_of_lt_of_le h (Nat.le_trans (Nat.pow_le_pow_right (by omega) h2) (by decide))

set_option maxHeartbeats 1000000 in
theorem four_any (w : World) (a : Option Addr) (n c : Nat) (l : List UInt8) (h : NB.RdB w a n c l) (hn : 4 ≤ n) :
    Calls Try.prog 51 #[.slice a n c] w fun e w' => e = .returned (.int .u64 (num4 l : Int)) ∧ w' = w := by
  have hbd := Rd.bound h
  have hle := h.le
  have hsz := NB.RdB.size h
  have h8 : 4 ≤ c := by omega
  obtain ⟨b3, o3, rfl, hc3⟩ := NB.RdB.at h (by omega)
  have HC := Go.Lib.hid hc3; clear hc3
  have hvl : ∀ k, k ≤ 4 → val (l.take k) < 256 ^ k := fun k hk => by
    have := NB.val_lt (l.take k)
    rwa [List.length_take, Nat.min_eq_left (by omega)] at this
  have hfin : num4 l = val (l.take 4) := rfl
  generalize num4 l = X4 at *
  have HF := Go.Lib.hid hfin; clear hfin
  go_enter Try.func51, Try.ntmps51
  go_wp2_with fail
  go_loop [3, 9] (fun x i => ∃ k : Nat, k ≤ 4 ∧ x = .int .u64 (val (l.take k) : Int) ∧ i = .int .i64 k) (fun _ i => 4 - (intOf i).toNat)
  case atStart => exact ⟨0, by omega, rfl, rfl⟩
  case round =>
    obtain ⟨k, hk, rfl, rfl⟩ := hrel
    have hv := hvl k hk
    have HVL := Go.Lib.hid hvl; clear hvl
    by_cases hlt : k < 4
    · have q3 := HC.out k (by omega)
      have hvs := val_take4 l k (by omega)
      have hX7 : val (l.take k) < 256 ^ 7 := Nat.lt_of_lt_of_le hv (Nat.pow_le_pow_right (by omega) (by omega))
      clear hv
      generalize l.getD k 0 = z at *
      generalize val (l.take k) = X at *
      have hor := step_or4 X z.toNat hX7 z.toNat_lt
      have HVS := Go.Lib.hid hvs
      clear hX7 hvs
      have hki : (k : Int) < 4 := by omega
      go_wp2_with fail
      go_round
      case rel => exact ⟨k + 1, by omega, by rw [HVS.out]; exact congrArg (Value.int .u64) (by omega), by go_num⟩
      case measure => simp [intOf]; omega
    · obtain rfl : k = 4 := by omega
      clear hv
      go_wp2_with fail
      go_ret
      exact ⟨by rw [HF.out]; rfl, rfl⟩
end Go.Proofs.Ytjfidhjnbcmhfaa
