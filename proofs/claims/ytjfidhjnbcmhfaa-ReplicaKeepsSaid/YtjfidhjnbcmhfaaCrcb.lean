/- The sum, in plain numbers: what is changed in one byte, or in up to 32 bits on end, has another sum. No program in sight. -/
import Derived.Test.YtjfidhjnbcmhfaaCrc
namespace Go.NB.Crc

theorem xor_zero' {a b : Nat} (h : a ^^^ b = 0) : a = b := by
  have : (a ^^^ b) ^^^ b = 0 ^^^ b := by rw [h]
  rw [Nat.xor_assoc, Nat.xor_self, Nat.xor_zero, Nat.zero_xor] at this
  exact this
theorem xor_cancel {a b c : Nat} (h : a ^^^ b = a ^^^ c) : b = c := by
  have : a ^^^ (a ^^^ b) = a ^^^ (a ^^^ c) := by rw [h]
  rw [← Nat.xor_assoc, ← Nat.xor_assoc, Nat.xor_self, Nat.zero_xor, Nat.zero_xor] at this
  exact this
theorem crcStep_lt' (x : Nat) (h : x < 4294967296) : crcStep x < 4294967296 := by
  unfold crcStep
  exact Nat.xor_lt_two_pow (n := 32) (by omega) (by have := Nat.mod_lt x (show 0 < 2 by omega); omega)
theorem crcSteps_lt' (n x : Nat) (h : x < 4294967296) : crcSteps n x < 4294967296 := by
  induction n with
  | zero => exact h
  | succ n ih => exact crcStep_lt' _ ih
theorem crcStep_zero (x : Nat) (h : x < 4294967296) (h0 : crcStep x = 0) : x = 0 := by
  unfold crcStep at h0
  rcases Nat.mod_two_eq_zero_or_one x with h1 | h1
  · rw [h1] at h0; simp at h0; omega
  · rw [h1] at h0
    have := xor_zero' h0
    omega
theorem crcSteps_zero (n x : Nat) (h : x < 4294967296) (h0 : crcSteps n x = 0) : x = 0 := by
  induction n with
  | zero => exact h0
  | succ n ih => exact ih (crcStep_zero _ (crcSteps_lt' _ _ h) h0)
theorem crcSteps_inj (n a b : Nat) (ha : a < 4294967296) (hb : b < 4294967296) (h : crcSteps n a = crcSteps n b) : a = b := by
  have h1 : crcSteps n (a ^^^ b) = 0 := by rw [crcSteps_xor, h, Nat.xor_self]
  exact xor_zero' (crcSteps_zero n _ (Nat.xor_lt_two_pow (n := 32) ha hb) h1)
theorem xor_byte_lt (x : Nat) (c : UInt8) (h : x < 4294967296) : x ^^^ c.toNat < 4294967296 :=
  Nat.xor_lt_two_pow (n := 32) h (by have := c.toNat_lt; omega)
theorem crcB_steps (x : Nat) (c : UInt8) : crcB x c = crcSteps 8 (x ^^^ c.toNat) := by rw [crcB_eq, rB, rsteps_eq]
theorem crcB_lt (x : Nat) (c : UInt8) (h : x < 4294967296) : crcB x c < 4294967296 := by
  rw [crcB_steps]; exact crcSteps_lt' _ _ (xor_byte_lt x c h)
theorem crcL_lt (x : Nat) (bs : List UInt8) (h : x < 4294967296) : crcL x bs < 4294967296 := by
  induction bs generalizing x with
  | nil => exact h
  | cons c bs ih => exact ih _ (crcB_lt x c h)
theorem crcL_inj (a b : Nat) (bs : List UInt8) (ha : a < 4294967296) (hb : b < 4294967296) (h : crcL a bs = crcL b bs) : a = b := by
  induction bs generalizing a b with
  | nil => exact h
  | cons c bs ih =>
    have := ih _ _ (crcB_lt a c ha) (crcB_lt b c hb) h
    rw [crcB_steps, crcB_steps] at this
    have := crcSteps_inj _ _ _ (xor_byte_lt a c ha) (xor_byte_lt b c hb) this
    exact xor_cancel (a := c.toNat) (by rw [Nat.xor_comm c.toNat a, Nat.xor_comm c.toNat b]; exact this)
theorem crcL_append (x : Nat) (a b : List UInt8) : crcL x (a ++ b) = crcL (crcL x a) b := by unfold crcL; rw [List.foldl_append]
theorem crcL_one (x : Nat) (p q : List UInt8) (c d : UInt8) (hx : x < 4294967296) (h : crcL x (p ++ c :: q) = crcL x (p ++ d :: q)) : c = d := by
  rw [crcL_append, crcL_append] at h
  have hp := crcL_lt x p hx
  have h1 : crcB (crcL x p) c = crcB (crcL x p) d := crcL_inj _ _ q (crcB_lt _ c hp) (crcB_lt _ d hp) h
  rw [crcB_steps, crcB_steps] at h1
  have h2 := crcSteps_inj _ _ _ (xor_byte_lt _ c hp) (xor_byte_lt _ d hp) h1
  exact UInt8.toNat_inj.1 (xor_cancel h2)
/-- One byte that is another one. -/
theorem sum_set (bs : List UInt8) (j : Nat) (d : UInt8) (hj : j < bs.length) : sumR [bs] = sumR [bs.set j d] ↔ bs.getD j 0 = d := by
  have hd : bs.getD j 0 = bs[j] := by simp [List.getD, hj]
  have e1 : bs = bs.take j ++ bs[j] :: bs.drop (j + 1) := by simp
  have e2 : bs.set j d = bs.take j ++ d :: bs.drop (j + 1) := by rw [List.set_eq_take_append_cons_drop, if_pos hj]
  rw [hd]
  constructor
  · intro h
    unfold sumR crcR at h
    simp only [List.foldl_cons, List.foldl_nil] at h
    have l1 := crcL_lt 4294967295 bs (by omega)
    have l2 := crcL_lt 4294967295 (bs.set j d) (by omega)
    have h' : crcL 4294967295 bs = crcL 4294967295 (bs.set j d) := by omega
    rw [e2] at h'
    rw [e1] at h'
    rw [← e1] at h'
    exact crcL_one 4294967295 _ _ _ _ (by omega) (by rw [← h', ← e1])
  · intro h
    subst h
    rw [List.set_getElem_self]
end Go.NB.Crc
