/- The sum, in plain numbers: by nibbles and bit by bit it is one; it is linear. No program in sight. -/
namespace Go.NB.Crc

def crcStep (x : Nat) : Nat := (x / 2) ^^^ ((x % 2) * 2197175160)
def crcSteps : Nat → Nat → Nat
  | 0, x => x
  | n+1, x => crcStep (crcSteps n x)
def nib (x n : Nat) : Nat := (x / 16) ^^^ crcSteps 4 ((x % 16) ^^^ n)
def crcB (x : Nat) (c : UInt8) : Nat := nib (nib x (c.toNat % 16)) (c.toNat / 16)
def crcL (x : Nat) (bs : List UInt8) : Nat := bs.foldl crcB x
def crcR (x : Nat) (l : List (List UInt8)) : Nat := l.foldl crcL x
def sumR (l : List (List UInt8)) : Nat := 4294967295 - crcR 4294967295 l
def rstep (x : Nat) : Nat := if x % 2 = 1 then (x / 2) ^^^ 2197175160 else x / 2
def rsteps : Nat → Nat → Nat
  | 0, x => x
  | n+1, x => rstep (rsteps n x)
def rB (x : Nat) (c : UInt8) : Nat := rsteps 8 (x ^^^ c.toNat)
def rL (x : Nat) (bs : List UInt8) : Nat := bs.foldl rB x
def rsum (bs : List UInt8) : Nat := 4294967295 - rL 4294967295 bs

theorem rstep_eq (x : Nat) : rstep x = crcStep x := by
  unfold rstep crcStep
  rcases Nat.mod_two_eq_zero_or_one x with h | h <;> simp [h]
theorem rsteps_eq (n x : Nat) : rsteps n x = crcSteps n x := by
  induction n with
  | zero => rfl
  | succ n ih => simp only [rsteps, crcSteps, ih, rstep_eq]

theorem xor_div2 (a b : Nat) : (a ^^^ b) / 2 = (a / 2) ^^^ (b / 2) := by
  have := Nat.shiftRight_xor_distrib (a := a) (b := b) (i := 1)
  simpa [Nat.shiftRight_succ] using this
theorem xor_mod2 (a b : Nat) : (a ^^^ b) % 2 = (a % 2) ^^^ (b % 2) := by
  have := Nat.xor_mod_two_pow (a := a) (b := b) (n := 1)
  simpa using this
theorem mul_poly (a b p : Nat) (ha : a < 2) (hb : b < 2) : (a ^^^ b) * p = (a * p) ^^^ (b * p) := by
  have h1 : a = 0 ∨ a = 1 := by omega
  have h2 : b = 0 ∨ b = 1 := by omega
  rcases h1 with rfl | rfl <;> rcases h2 with rfl | rfl <;> simp

theorem xor4 (a b c d : Nat) : (a ^^^ b) ^^^ (c ^^^ d) = (a ^^^ c) ^^^ (b ^^^ d) := by
  rw [Nat.xor_assoc, Nat.xor_assoc, ← Nat.xor_assoc b c d, ← Nat.xor_assoc c b d, Nat.xor_comm b c]

theorem crcStep_xor (a b : Nat) : crcStep (a ^^^ b) = crcStep a ^^^ crcStep b := by
  unfold crcStep
  rw [xor_div2, xor_mod2, mul_poly _ _ _ (Nat.mod_lt _ (by omega)) (Nat.mod_lt _ (by omega)), xor4]
theorem crcSteps_xor (n a b : Nat) : crcSteps n (a ^^^ b) = crcSteps n a ^^^ crcSteps n b := by
  induction n with
  | zero => rfl
  | succ n ih => simp only [crcSteps, ih, crcStep_xor]
theorem crcSteps_add (m n x : Nat) : crcSteps (m + n) x = crcSteps m (crcSteps n x) := by
  induction m with
  | zero => simp [crcSteps]
  | succ m ih => rw [Nat.succ_add]; simp only [crcSteps, ih]
theorem crcStep_even (y : Nat) : crcStep (2 * y) = y := by
  unfold crcStep
  rw [show 2 * y % 2 = 0 by omega, show 2 * y / 2 = y by omega]; simp
theorem crcSteps_16 (y : Nat) : crcSteps 4 (16 * y) = y := by
  show crcStep (crcStep (crcStep (crcStep (16 * y)))) = y
  rw [show 16 * y = 2 * (2 * (2 * (2 * y))) by omega, crcStep_even, crcStep_even, crcStep_even, crcStep_even]
theorem split16 (x : Nat) : x = (16 * (x / 16)) ^^^ (x % 16) := by
  have h := Nat.two_pow_add_eq_or_of_lt (i := 4) (b := x % 16) (Nat.mod_lt _ (by omega)) (x / 16)
  have h0 : (16 * (x / 16)) ^^^ (x % 16) = 16 * (x / 16) + x % 16 := by
    apply Nat.eq_of_testBit_eq
    intro i
    rw [Nat.testBit_xor, show (16 : Nat) = 2 ^ 4 from rfl, Nat.testBit_two_pow_mul, Nat.testBit_two_pow_mul_add _ (Nat.mod_lt _ (by decide)), Nat.testBit_mod_two_pow]
    by_cases hi : i < 4
    · simp [hi, show ¬ 4 ≤ i by omega]
    · simp [hi, show 4 ≤ i by omega]
  omega
theorem nib_eq (x n : Nat) : nib x n = crcSteps 4 (x ^^^ n) := by
  unfold nib
  conv => rhs; rw [split16 x, Nat.xor_assoc, crcSteps_xor, crcSteps_16]
theorem crcB_eq (x : Nat) (c : UInt8) : crcB x c = rB x c := by
  unfold crcB rB
  rw [nib_eq, nib_eq, rsteps_eq]
  conv => rhs; rw [split16 c.toNat, Nat.xor_comm (16 * _), ← Nat.xor_assoc, crcSteps_add 4 4, crcSteps_xor 4 (_ ^^^ _), crcSteps_16]
theorem crcL_eq (x : Nat) (bs : List UInt8) : crcL x bs = rL x bs := by
  unfold crcL rL
  rw [show crcB = rB from funext fun x => funext fun c => crcB_eq x c]
theorem crcR_eq (x : Nat) (l : List (List UInt8)) : crcR x l = crcL x l.flatten := by
  unfold crcR
  induction l generalizing x with
  | nil => rfl
  | cons b l ih => simp only [List.foldl_cons, List.flatten_cons, ih]; unfold crcL; rw [List.foldl_append]
theorem sum_eq (l : List (List UInt8)) : sumR l = rsum l.flatten := by
  unfold sumR rsum; rw [crcR_eq, crcL_eq]
end Go.NB.Crc
