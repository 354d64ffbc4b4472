/- Up to 32 bits on end, in plain numbers: what is sealed is not right with them changed. No program in sight. -/
import Derived.Test.YtjfidhjnbcmhfaaCrcb
namespace Go.NB.Crc

/-- The number of bytes, the lowest first. -/
def leN : List UInt8 → Nat
  | [] => 0
  | c :: l => c.toNat + 256 * leN l

theorem leN_lt (l : List UInt8) : leN l < 2 ^ (8 * l.length) := by
  induction l with
  | nil => simp [leN]
  | cons c l ih =>
    have := c.toNat_lt
    rw [List.length_cons, show 8 * (l.length + 1) = 8 * l.length + 8 by omega, Nat.pow_add]
    simp only [leN]
    omega

theorem leN_append (a b : List UInt8) : leN (a ++ b) = leN a + 2 ^ (8 * a.length) * leN b := by
  induction a with
  | nil => simp [leN]
  | cons c l ih =>
    simp only [List.cons_append, leN, ih, List.length_cons]
    rw [show 8 * (l.length + 1) = 8 * l.length + 8 by omega, Nat.pow_add, show (2 : Nat) ^ 8 = 256 from rfl, Nat.mul_add, Nat.mul_comm (2 ^ (8 * l.length)) 256, Nat.mul_assoc]
    omega

/-- Bit t of the number is bit t % 8 of byte t / 8. -/
theorem leN_testBit (l : List UInt8) (t : Nat) : (leN l).testBit t = (l.getD (t / 8) 0).toNat.testBit (t % 8) := by
  induction l generalizing t with
  | nil => simp [leN]
  | cons c l ih =>
    simp only [leN]
    have hc := c.toNat_lt
    rw [show c.toNat + 256 * leN l = 2 ^ 8 * leN l + c.toNat by omega, Nat.testBit_two_pow_mul_add _ hc]
    by_cases h : t < 8
    · rw [if_pos h, show t / 8 = 0 by omega, show t % 8 = t by omega]; simp
    · rw [if_neg h, ih, show t / 8 = (t - 8) / 8 + 1 by omega, show (t - 8) % 8 = t % 8 by omega]; simp

theorem crcSteps_shift (k y : Nat) : crcSteps k (2 ^ k * y) = y := by
  induction k generalizing y with
  | zero => simp [crcSteps]
  | succ k ih =>
    rw [show 2 ^ (k + 1) * y = 2 ^ k * (2 * y) by rw [Nat.pow_succ, Nat.mul_assoc]]
    show crcStep (crcSteps k (2 ^ k * (2 * y))) = y
    rw [ih, crcStep_even]

theorem xor_add (k a b : Nat) (ha : a < 2 ^ k) : a + 2 ^ k * b = a ^^^ (2 ^ k * b) := by
  apply Nat.eq_of_testBit_eq
  intro i
  rw [Nat.testBit_xor, Nat.add_comm, Nat.testBit_two_pow_mul_add _ ha, Nat.testBit_two_pow_mul]
  by_cases hi : i < k
  · simp [hi, show ¬ k ≤ i by omega]
  · simp [hi, show k ≤ i by omega, Nat.testBit_lt_two_pow (Nat.lt_of_lt_of_le ha (Nat.pow_le_pow_right (by omega) (show k ≤ i by omega)))]

/-- The bytes in one number: the sum's state behind them, and what stands above them. -/
theorem crcL_num (r s : Nat) (l : List UInt8) : crcSteps (8 * l.length) (r ^^^ (leN l + 2 ^ (8 * l.length) * s)) = crcL r l ^^^ s := by
  induction l generalizing r with
  | nil => simp [crcSteps, leN, crcL]
  | cons c l ih =>
    have hc := c.toNat_lt
    have e : leN (c :: l) + 2 ^ (8 * (c :: l).length) * s = c.toNat ^^^ (2 ^ 8 * (leN l + 2 ^ (8 * l.length) * s)) := by
      rw [← xor_add 8 _ _ hc]
      simp only [leN, List.length_cons]
      rw [show 8 * (l.length + 1) = 8 + 8 * l.length by omega, Nat.pow_add, Nat.mul_add, Nat.mul_assoc]
      omega
    rw [e, List.length_cons, show 8 * (l.length + 1) = 8 * l.length + 8 by omega, crcSteps_add, ← Nat.xor_assoc, crcSteps_xor 8, crcSteps_shift, ← crcB_steps, ih]
    rfl

/-- All that is sealed, in one number. -/
def cwN (c : List UInt8) (n : Nat) : Nat := leN (c.take n) + 2 ^ (8 * n) * leN (c.drop n).reverse

theorem ones_xor (x : Nat) (h : x < 4294967296) : x ^^^ (4294967295 - x) = 4294967295 := by
  have := congrArg BitVec.toNat (BitVec.allOnes_xor (x := BitVec.ofNat 32 x))
  rw [BitVec.toNat_xor, BitVec.toNat_not, BitVec.toNat_allOnes, BitVec.toNat_ofNat, Nat.mod_eq_of_lt h] at this
  have h2 : 4294967295 ^^^ x = 4294967295 - x := this
  rw [← h2, Nat.xor_comm 4294967295, ← Nat.xor_assoc, Nat.xor_self, Nat.zero_xor]

def four (x : Nat) : List UInt8 := [UInt8.ofNat (x / 16777216), UInt8.ofNat (x / 65536), UInt8.ofNat (x / 256), UInt8.ofNat x]
theorem four_num (x : Nat) (h : x < 4294967296) : leN (four x).reverse = x := by
  simp [four, leN]; omega
theorem leN_inj4 (a b : List UInt8) (ha : a.length = 4) (hb : b.length = 4) (h : leN a = leN b) : a = b := by
  match a, b, ha, hb with
  | [a0, a1, a2, a3], [b0, b1, b2, b3], _, _ =>
    simp only [leN] at h
    have h0 := a0.toNat_lt; have h1 := a1.toNat_lt; have h2 := a2.toNat_lt; have h3 := a3.toNat_lt
    have g0 := b0.toNat_lt; have g1 := b1.toNat_lt; have g2 := b2.toNat_lt; have g3 := b3.toNat_lt
    have e0 : a0 = b0 := UInt8.toNat_inj.1 (by omega)
    have e1 : a1 = b1 := UInt8.toNat_inj.1 (by omega)
    have e2 : a2 = b2 := UInt8.toNat_inj.1 (by omega)
    have e3 : a3 = b3 := UInt8.toNat_inj.1 (by omega)
    rw [e0, e1, e2, e3]

/-- It is sealed just if its number goes to all ones. -/
theorem sealed_num (c : List UInt8) (n : Nat) (hc : c.length = n + 4) :
    (c.take n ++ four (sumR [c.take n]) = c) ↔ crcSteps (8 * n) (4294967295 ^^^ cwN c n) = 4294967295 := by
  have hl : (c.take n).length = n := by simp; omega
  have hn := crcL_num 4294967295 (leN (c.drop n).reverse) (c.take n)
  rw [hl] at hn
  have hs : sumR [c.take n] = 4294967295 - crcL 4294967295 (c.take n) := rfl
  have hlt := crcL_lt 4294967295 (c.take n) (by omega)
  unfold cwN
  rw [hn]
  constructor
  · intro h
    have hd : c.drop n = four (sumR [c.take n]) := by
      have := congrArg (List.drop n) h
      rw [List.drop_append_of_le_length (by omega), List.drop_of_length_le (by omega)] at this
      simpa using this.symm
    rw [hd, four_num _ (by rw [hs]; omega), hs, ones_xor _ hlt]
  · intro h
    have h2 : leN (c.drop n).reverse = sumR [c.take n] := by
      have := ones_xor _ hlt
      rw [hs]; exact xor_cancel (h.trans this.symm)
    have h3 : (c.drop n).reverse = (four (sumR [c.take n])).reverse := by
      refine leN_inj4 _ _ (by simp; omega) (by simp [four]) ?_
      rw [h2, four_num _ (by rw [hs]; omega)]
    have h4 := List.reverse_inj.1 h3
    rw [← h4]; simp

/-- Where bit t of what is sealed stands: its byte, and the bit in it. -/
def bitAt (n t : Nat) : Nat := if t < 8 * n then t else 8 * (n + (3 - (t - 8 * n) / 8)) + (t - 8 * n) % 8
theorem bitAt_lt (n t : Nat) (ht : t < 8 * n + 32) : bitAt n t / 8 < n + 4 := by
  unfold bitAt; split <;> omega

theorem cwN_testBit (c : List UInt8) (n t : Nat) (hc : c.length = n + 4) :
    (cwN c n).testBit t = if t < 8 * n + 32 then (c.getD (bitAt n t / 8) 0).toNat.testBit (bitAt n t % 8) else false := by
  have hl : (c.take n).length = n := by simp; omega
  have hlt := leN_lt (c.take n)
  rw [hl] at hlt
  unfold cwN
  rw [Nat.add_comm, Nat.testBit_two_pow_mul_add _ hlt]
  by_cases h : t < 8 * n
  · rw [if_pos h, if_pos (by omega), leN_testBit]
    unfold bitAt
    rw [if_pos h]
    have : t / 8 < n := by omega
    simp [List.getD, List.getElem?_take, this]
  · rw [if_neg h, leN_testBit]
    by_cases h2 : t < 8 * n + 32
    · rw [if_pos h2]
      unfold bitAt
      rw [if_neg h]
      have hk : (t - 8 * n) / 8 < 4 := by omega
      rw [show (8 * (n + (3 - (t - 8 * n) / 8)) + (t - 8 * n) % 8) / 8 = n + (3 - (t - 8 * n) / 8) by omega,
        show (8 * (n + (3 - (t - 8 * n) / 8)) + (t - 8 * n) % 8) % 8 = (t - 8 * n) % 8 by omega]
      congr 2
      have hd : (c.drop n).length = 4 := by simp; omega
      rw [List.getD, List.getElem?_reverse (by omega), hd, List.getElem?_drop]
      rw [List.getD, show n + (4 - 1 - (t - 8 * n) / 8) = n + (3 - (t - 8 * n) / 8) by omega]
    · rw [if_neg h2]
      have hd : (c.drop n).reverse.length = 4 := by simp; omega
      rw [List.getD, List.getElem?_eq_none (by omega)]
      simp

/-- One bit turned. -/
def flip (c : List UInt8) (p : Nat) : List UInt8 := c.set (p / 8) (UInt8.ofNat ((c.getD (p / 8) 0).toNat ^^^ 2 ^ (p % 8)))
theorem flip_length (c : List UInt8) (p : Nat) : (flip c p).length = c.length := by simp [flip]

theorem bitAt_inj (n t u : Nat) (ht : t < 8 * n + 32) (hu : u < 8 * n + 32) (h : bitAt n t = bitAt n u) : t = u := by
  unfold bitAt at h
  split at h <;> split at h <;> omega

theorem flip_num (c : List UInt8) (n t : Nat) (hc : c.length = n + 4) (ht : t < 8 * n + 32) : cwN (flip c (bitAt n t)) n = cwN c n ^^^ 2 ^ t := by
  apply Nat.eq_of_testBit_eq
  intro u
  rw [Nat.testBit_xor, cwN_testBit _ n u (by rw [flip_length]; exact hc), cwN_testBit c n u hc, Nat.testBit_two_pow]
  by_cases hu : u < 8 * n + 32
  · rw [if_pos hu, if_pos hu]
    have hb := bitAt_lt n t ht
    have hbu := bitAt_lt n u hu
    unfold flip
    by_cases he : bitAt n u / 8 = bitAt n t / 8
    · have hx : ((c.set (bitAt n t / 8) (UInt8.ofNat ((c.getD (bitAt n t / 8) 0).toNat ^^^ 2 ^ (bitAt n t % 8)))).getD (bitAt n u / 8) 0) = UInt8.ofNat ((c.getD (bitAt n u / 8) 0).toNat ^^^ 2 ^ (bitAt n t % 8)) := by
        rw [he]; simp [List.getD, List.getElem?_set, hc, hb]
      rw [hx]
      have hv := (c.getD (bitAt n u / 8) 0).toNat_lt
      have hp : 2 ^ (bitAt n t % 8) < 2 ^ 8 := Nat.pow_lt_pow_right (by omega) (by omega)
      have hxl : (c.getD (bitAt n u / 8) 0).toNat ^^^ 2 ^ (bitAt n t % 8) < 2 ^ 8 := Nat.xor_lt_two_pow (by omega) hp
      rw [UInt8.toNat_ofNat', Nat.mod_eq_of_lt hxl, Nat.testBit_xor, Nat.testBit_two_pow]
      congr 1
      by_cases htu : t = u
      · subst htu; simp
      · have : bitAt n t % 8 ≠ bitAt n u % 8 := fun e => htu (bitAt_inj n t u ht hu (by omega))
        simp [htu, this]
    · have hx : ((c.set (bitAt n t / 8) (UInt8.ofNat ((c.getD (bitAt n t / 8) 0).toNat ^^^ 2 ^ (bitAt n t % 8)))).getD (bitAt n u / 8) 0) = c.getD (bitAt n u / 8) 0 := by
        simp [List.getD, List.getElem?_set, Ne.symm he]
      rw [hx]
      have htu : t ≠ u := fun e => he (by rw [e])
      simp [htu]
  · rw [if_neg hu, if_neg hu]
    have : t ≠ u := by omega
    simp [this]

/-- The bits of 'burst' from bit k on, the first i of them. -/
def turned (c : List UInt8) (n k burst : Nat) : Nat → List UInt8
  | 0 => c
  | i + 1 => if burst.testBit i then flip (turned c n k burst i) (bitAt n (k + i)) else turned c n k burst i
theorem turned_length (c : List UInt8) (n k burst i : Nat) : (turned c n k burst i).length = c.length := by
  induction i with
  | zero => rfl
  | succ i ih => simp only [turned]; split <;> simp [flip_length, ih]
theorem mod_succ (b i : Nat) : b % 2 ^ (i + 1) = (b % 2 ^ i) ^^^ (if b.testBit i then 2 ^ i else 0) := by
  apply Nat.eq_of_testBit_eq
  intro u
  rw [Nat.testBit_xor, Nat.testBit_mod_two_pow, Nat.testBit_mod_two_pow]
  by_cases h : u = i
  · subst h
    by_cases hb : b.testBit u <;> simp [hb]
  · have : u < i + 1 ↔ u < i := by omega
    by_cases hb : b.testBit i <;> simp [hb, this, Nat.testBit_two_pow, Ne.symm h]
theorem turned_num (c : List UInt8) (n k burst i : Nat) (hc : c.length = n + 4) (hk : k ≤ 8 * n) (hi : i ≤ 32) :
    cwN (turned c n k burst i) n = cwN c n ^^^ (2 ^ k * (burst % 2 ^ i)) := by
  induction i with
  | zero => simp [turned, Nat.mod_one]
  | succ i ih =>
    have ih' := ih (by omega)
    rw [mod_succ]
    simp only [turned]
    have hdist : ∀ x : Nat, 2 ^ k * ((burst % 2 ^ i) ^^^ x) = (2 ^ k * (burst % 2 ^ i)) ^^^ (2 ^ k * x) := by
      intro x
      apply Nat.eq_of_testBit_eq
      intro u
      rw [Nat.testBit_xor, Nat.testBit_two_pow_mul, Nat.testBit_two_pow_mul, Nat.testBit_two_pow_mul, Nat.testBit_xor]
      by_cases h : k ≤ u <;> simp [h]
    by_cases hb : burst.testBit i
    · rw [if_pos hb, if_pos hb, flip_num _ n (k + i) (by rw [turned_length]; exact hc) (by omega), ih', hdist, Nat.pow_add, Nat.xor_assoc]
    · rw [if_neg hb, if_neg hb, ih', hdist]; simp

/-- What is sealed, with a burst turned, is sealed no more. -/
theorem burst_wrong (m : List UInt8) (k burst : Nat) (hk : k ≤ 8 * m.length) (hb : burst < 4294967296) (h0 : burst ≠ 0) :
    let c := turned (m ++ four (sumR [m])) m.length k burst 32
    (c.take m.length ++ four (sumR [c.take m.length]) = c) → False := by
  intro c h
  have hl : (m ++ four (sumR [m])).length = m.length + 4 := by simp [four]
  have hc : c.length = m.length + 4 := by show (turned _ _ _ _ _).length = _; rw [turned_length, hl]
  have h1 := (sealed_num c m.length hc).1 h
  have h2 := (sealed_num (m ++ four (sumR [m])) m.length hl).1 (by simp)
  have h3 : cwN c m.length = _ := turned_num (m ++ four (sumR [m])) m.length k burst 32 hl hk (Nat.le_refl _)
  rw [h3, ← Nat.xor_assoc, crcSteps_xor, h2, Nat.mod_eq_of_lt (by omega)] at h1
  have h4 : crcSteps (8 * m.length) (2 ^ k * burst) = 0 := xor_cancel (a := 4294967295) (h1.trans (Nat.xor_zero _).symm)
  rw [show 8 * m.length = (8 * m.length - k) + k by omega, crcSteps_add, crcSteps_shift] at h4
  exact h0 (crcSteps_zero _ _ hb h4)
end Go.NB.Crc
