/- The cell's small functions, walked: a number of eight bytes; is a block whole? -/
import Derived.Test.YtcdapjfaekamkaaDskg
import Derived.Test.YtcdapjfaekamkaaSum
import Derived.Test.YtcdapjfaekamkaaNum
import Derived.Test.YtcdapjfaekamkaaAny
namespace Go.Proofs.Ytcdapjfaekamkaa
open Go.RowKit
open Go.NB (Rd Dk Kp Stp Off Dis val)

theorem step_or (x : Nat) (c : Nat) (hx : x < 256 ^ 7) (hc : c < 256) : bits .or .u64 (IntKind.u64.wrap ((x : Int) * 256)) (IntKind.u64.wrap (c : Int)) = ((x * 256 + c : Nat) : Int) := by
  have hx' : x < 72057594037927936 := by simpa using hx
  have w1 : IntKind.u64.wrap ((x : Int) * 256) = (x : Int) * 256 := by rw [IntKind.wrap_u64]; omega
  have w2 : IntKind.u64.wrap (c : Int) = (c : Int) := by rw [IntKind.wrap_u64]; omega
  rw [w1, w2, bits_join .u64 64 (by decide) (fun n h0 h1 => by rw [IntKind.wrap_u64]; omega) 8 _ _ (by omega) (by omega) (by omega) (by omega) (by omega) (by omega)]
  omega
theorem val_take (l : List UInt8) (k : Nat) (h : k < l.length) : val (l.take (k + 1)) = val (l.take k) * 256 + (l.getD k 0).toNat := by
  rw [NB.take_getD l k h (d := 0), NB.val_snoc]

/-- The number of the first eight bytes. -/
def num8 (l : List UInt8) : Nat := val (l.take 8)
theorem num8_lt (l : List UInt8) : num8 l < 18446744073709551616 := by
  have h := NB.val_lt (l.take 8)
  have h2 : (l.take 8).length ≤ 8 := by rw [List.length_take]; omega
  exact Nat.lt_of_lt_of_le h (Nat.le_trans (Nat.pow_le_pow_right (by omega) h2) (by decide))

set_option maxHeartbeats 1000000 in
theorem number_any (w : World) (a : Option Addr) (n c : Nat) (l : List UInt8) (h : NB.RdB w a n c l) (hn : 8 ≤ n) :
    Calls Try.prog 29 #[.slice a n c] w fun e w' => e = .returned (.int .u64 (num8 l : Int)) ∧ w' = w := by
  have hbd := Rd.bound h
  have hle := h.le
  have hsz := NB.RdB.size h
  have h8 : 8 ≤ c := by omega
  obtain ⟨b3, o3, rfl, hc3⟩ := NB.RdB.at h (by omega)
  have HC := Go.Lib.hid hc3; clear hc3
  have hvl : ∀ k, k ≤ 8 → val (l.take k) < 256 ^ k := fun k hk => by
    have := NB.val_lt (l.take k)
    rwa [List.length_take, Nat.min_eq_left (by omega)] at this
  have hfin : num8 l = val (l.take 8) := rfl
  generalize num8 l = X8 at *
  have HF := Go.Lib.hid hfin; clear hfin
  go_enter Try.func29, Try.ntmps29
  go_wp2_with fail
  go_loop [3, 9] (fun x i => ∃ k : Nat, k ≤ 8 ∧ x = .int .u64 (val (l.take k) : Int) ∧ i = .int .i64 k) (fun _ i => 8 - (intOf i).toNat)
  case atStart => exact ⟨0, by omega, rfl, rfl⟩
  case round =>
    obtain ⟨k, hk, rfl, rfl⟩ := hrel
    have hv := hvl k hk
    have HVL := Go.Lib.hid hvl; clear hvl
    by_cases hlt : k < 8
    · have q3 := HC.out k (by omega)
      have hvs := val_take l k (by omega)
      have hX7 : val (l.take k) < 256 ^ 7 := Nat.lt_of_lt_of_le hv (Nat.pow_le_pow_right (by omega) (by omega))
      clear hv
      generalize l.getD k 0 = z at *
      generalize val (l.take k) = X at *
      have hor := step_or X z.toNat hX7 z.toNat_lt
      have HVS := Go.Lib.hid hvs
      clear hX7 hvs
      have hki : (k : Int) < 8 := by omega
      go_wp2_with fail
      go_round
      case rel => exact ⟨k + 1, by omega, by rw [HVS.out]; exact congrArg (Value.int .u64) (by omega), by go_num⟩
      case measure => simp [intOf]; omega
    · obtain rfl : k = 8 := by omega
      clear hv
      go_wp2_with fail
      go_ret
      exact ⟨by rw [HF.out]; rfl, rfl⟩
end Go.Proofs.Ytcdapjfaekamkaa
