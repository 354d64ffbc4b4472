/- The reference on sums, walked: what it seals, and what is right, are the program's. -/
import Derived.Test.YtmgkaoenjnnlmaaSum
namespace Go.Proofs.Ytmgkaoenjnnlmaa
open Go.RowKit
open Go.NB.Crc
open Go.NB (Rd)

theorem rstep_lt (x : Nat) (h : x < 4294967296) : rstep x < 4294967296 := by
  unfold rstep; split
  · exact Nat.xor_lt_two_pow (n := 32) (by omega) (by omega)
  · omega

theorem rsteps_lt (n x : Nat) (h : x < 4294967296) : rsteps n x < 4294967296 := by
  induction n with
  | zero => exact h
  | succ n ih => exact rstep_lt _ ih
theorem xor8 (z : Nat) (v : UInt8) (h : z < 4294967296) : bits .xor .u32 (z : Int) ((v.toNat : Int) % 4294967296) = ((z ^^^ v.toNat : Nat) : Int) ∧ z ^^^ v.toNat < 4294967296 := by
  have hv : v.toNat < 256 := v.toNat_lt
  rw [show ((v.toNat : Int) % 4294967296) = ((v.toNat : Nat) : Int) by omega, u32_xor_nat _ _ h (by omega)]
  exact ⟨rfl, Nat.xor_lt_two_pow (n := 32) h (by omega)⟩
theorem xorp (y : Nat) (h : y < 4294967296) : bits .xor .u32 ((y : Int) / 2) 2197175160 = (((y / 2) ^^^ 2197175160 : Nat) : Int) := by
  rw [show ((y : Int) / 2) = ((y / 2 : Nat) : Int) by omega, show (2197175160 : Int) = ((2197175160 : Nat) : Int) from rfl, u32_xor_nat _ _ (by omega) (by omega)]
theorem bget (s : ByteArray) (k : Nat) (h : k < s.size) : s.data.toList.getD k 0 = s[k] := by
  have h' : k < s.data.toList.length := by simpa using h
  rw [List.getD, List.getElem?_eq_getElem h']
  simp; rfl

set_option maxHeartbeats 400000 in
theorem rof_any (w : World) (s : ByteArray) (hs : s.size ≤ maxLen) :
    Calls Try.prog 68 #[.string s] w fun e w' => e = .returned (.int .u32 (rsum s.data.toList : Int)) ∧ w' = w := by
  unfold maxLen at hs
  go_enter Try.func68, Try.ntmps68
  go_wp2
  go_loop [3, 4] (fun x i => ∃ k : Nat, k ≤ s.size ∧ i = .int .i64 k ∧ ∃ z : Nat, z = rL 4294967295 (s.data.toList.take k) ∧ z < 4294967296 ∧ x = .int .u32 z) (fun _ i => s.size - (intOf i).toNat)
  case atStart => exact ⟨0, by omega, rfl, 4294967295, rfl, by omega, rfl⟩
  case round =>
    obtain ⟨k, hk, rfl, z, hz, hzl, rfl⟩ := hrel
    have HZ := Go.Lib.hid hz; clear hz
    by_cases hkn : k < s.size
    · have hsk := bget s k hkn
      go_wp2
      generalize s[k] = v at *
      obtain ⟨e1, hx⟩ := xor8 z v hzl
      rw [e1]
      have HK := Go.Lib.hid hsk; clear hsk e1
      generalize hx0 : z ^^^ v.toNat = x0 at *
      have HX := Go.Lib.hid hx0; clear hx0
      go_loop [3, 5] (fun x i => ∃ q : Nat, q ≤ 8 ∧ i = .int .i64 q ∧ ∃ y : Nat, y = rsteps q x0 ∧ y < 4294967296 ∧ x = .int .u32 y) (fun _ i => 8 - (intOf i).toNat)
      case atStart => exact ⟨0, by omega, rfl, x0, rfl, hx, rfl⟩
      case round =>
        obtain ⟨q, hq, rfl, y, hy, hyl, rfl⟩ := hrel
        have HY := Go.Lib.hid hy; clear hy
        by_cases hq8 : q < 8
        · by_cases hy2 : y % 2 = 1
          · have e2 : ((y : Int) % 2 == 1) = true := by simp; omega
            have e3 := xorp y hyl
            have hlt := rstep_lt y hyl
            have hst : rstep y = (y / 2) ^^^ 2197175160 := by simp [rstep, hy2]
            clear hy2
            generalize hr : (y / 2) ^^^ 2197175160 = r at *
            have HR := Go.Lib.hid hst; clear hst hr
            go_wp2
            go_round
            case rel => exact ⟨q+1, by omega, by go_num, r, by rw [← HR.out, HY.out]; rfl, by rw [← HR.out]; exact hlt, rfl⟩
            case measure => simp [intOf]; omega
          · have e2 : ((y : Int) % 2 == 1) = false := by simp; omega
            have hlt := rstep_lt y hyl
            have HR : Hid (rstep y = y / 2) := Go.Lib.hid (by simp [rstep, hy2])
            clear hy2
            go_wp2
            go_round
            case rel => exact ⟨q+1, by omega, by go_num, y / 2, by rw [← HR.out, HY.out]; rfl, by omega, by simp⟩
            case measure => simp [intOf]; omega
        · obtain rfl : q = 8 := by omega
          go_wp2
          go_round
          case rel => exact ⟨k+1, by omega, by go_num, y, by rw [HY.out, ← HX.out, HZ.out, ← HK.out, NB.take_getD (d := 0) _ k (by simpa using hkn)]; simp [rL, rB], hyl, rfl⟩
          case measure => simp [intOf]; omega
    · obtain rfl : k = s.size := by omega
      have hz := HZ.out
      rw [List.take_of_length_le (by simp)] at hz
      obtain ⟨r, hr⟩ : ∃ r : Nat, r = 4294967295 - z := ⟨_, rfl⟩
      have hr2 : 4294967295 - (z : Int) = (r : Int) := by omega
      have HR : Hid (r = rsum s.data.toList) := Go.Lib.hid (by unfold rsum; rw [← hz, hr])
      clear hz hr
      go_wp2
      go_ret
      exact ⟨by rw [← HR.out]; rfl, rfl⟩

/-- The same at a string that is given as a list. -/
theorem rof_l (w : World) (l : List UInt8) (hs : l.length ≤ 9223372036854775807) :
    Calls Try.prog 68 #[.string ⟨l.toArray⟩] w fun e w' => e = .returned (.int .u32 (rsum l : Int)) ∧ w' = w := by
  have := rof_any w ⟨l.toArray⟩ (by unfold maxLen; show l.toArray.size ≤ _; simpa using hs)
  simpa using this
theorem rsealedL_len (l : List UInt8) : (l ++ four (rsum l)).length = l.length + 4 := by simp [four]
theorem rsum_lt (l : List UInt8) : rsum l < 4294967296 := by unfold rsum; omega

set_option maxHeartbeats 400000 in
theorem rfour_any (w : World) (x : Nat) (hx : x < 4294967296) :
    Calls Try.prog 50 #[.int .u32 (x : Int)] w fun e w' => e = .returned (.string ⟨(four x).toArray⟩) ∧ Below w.heap.size w w' := by
  have hfc := four_cells x hx
  go_enter Try.func50, Try.ntmps50
  go_wp2_with (with_reducible refine NB.wpList_conv_str (o := ⟨some 15, _, _, _, _, _⟩) rfl 23 9 (.tmp 14) rfl Try.underlying23 Try.underlying5 Try.underlying9 _ _ _ (four x) rfl (NB.rd_new w _ 5 4 rfl (by unfold maxLen; omega) rfl) ?_)
  go_ret
  exact ⟨rfl, (Below.refl _ _).alloc (Nat.le_refl _) _⟩

def rsealedL (bs : List UInt8) : List UInt8 := bs ++ four (rsum bs)

set_option maxHeartbeats 400000 in
theorem rsealed_any (w : World) (l : List UInt8) (hl : l.length ≤ 140737488355328) :
    Calls Try.prog 51 #[.string ⟨l.toArray⟩] w fun e w' => e = .returned (.string ⟨(rsealedL l).toArray⟩) ∧ Below w.heap.size w w' := by
  have hx := rsum_lt l
  have h4 : (four (rsum l)).length = 4 := rfl
  go_enter Try.func51, Try.ntmps51
  go_wp2_with (first
    | (go_at_call 68; refine (rof_l _ _ (by omega)).mono ?_; rintro e w1 ⟨rfl, rfl⟩)
    | (go_at_call 50; refine (rfour_any _ _ hx).mono ?_; rintro e w1 ⟨rfl, hb1⟩))
  go_ret
  exact ⟨rfl, hb1⟩

def rrightL (bs : List UInt8) : Bool := decide (4 ≤ bs.length) && (rsealedL (bs.take (bs.length - 4)) == bs)

set_option maxHeartbeats 400000 in
theorem rright_any (w : World) (l : List UInt8) (hl : l.length ≤ 140737488355328) :
    Calls Try.prog 71 #[.string ⟨l.toArray⟩] w fun e w' => e = .returned (.bool (rrightL l)) ∧ Below w.heap.size w w' := by
  by_cases h4 : 4 ≤ l.length
  · obtain ⟨k, hk⟩ : ∃ k, k = l.length - 4 := ⟨_, rfl⟩
    have e0 : ((l.length : Int) - 4) = (k : Int) := by omega
    have hkl : k ≤ l.length := by omega
    have HK := Go.Lib.hid hk; clear hk
    go_enter Try.func71, Try.ntmps71
    go_wp2_with (first
      | (go_at_call 51; refine (rsealed_any _ _ (by simp; omega)).mono ?_; rintro e w1 ⟨rfl, hb1⟩))
    go_ret
    exact ⟨by have := HK.out; simp [rrightL, h4, this], hb1⟩
  · go_enter Try.func71, Try.ntmps71
    go_wp2
    go_ret
    exact ⟨by simp [rrightL, h4], Below.refl _ _⟩

theorem rsealed_eq (l : List UInt8) : rsealedL l = sealedL l := by unfold rsealedL sealedL; rw [sum_eq]; simp
theorem rright_eq (l : List UInt8) : rrightL l = rightL l := by unfold rrightL rightL; rw [rsealed_eq]
end Go.Proofs.Ytmgkaoenjnnlmaa
