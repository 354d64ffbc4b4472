/- Reading and putting numbers: plain laws. No program in sight. -/
import Derived.Test.YtjfidhjnbcmhfaaNum
namespace Go.NB
open Go Go.RowKit

namespace Rr
theorem take_err {r : Rr} (h : r.e ≠ 0) (n : Nat) : r.take n = (r, []) := by simp [Rr.take, h]
theorem take_short {b : List UInt8} {n : Nat} (h : b.length < n) : Rr.take ⟨b, 0⟩ n = (⟨b, 10⟩, []) := by simp [Rr.take, h]
theorem take_ok {b : List UInt8} {n : Nat} (h : n ≤ b.length) : Rr.take ⟨b, 0⟩ n = (⟨b.drop n, 0⟩, b.take n) := by simp [Rr.take, Nat.not_lt.2 h]
theorem fail_ok {b : List UInt8} (x : Int) : Rr.fail ⟨b, 0⟩ x = ⟨b, x⟩ := by simp [Rr.fail]
theorem fail_err {r : Rr} (h : r.e ≠ 0) (x : Int) : r.fail x = r := by simp [Rr.fail, h]
theorem uint_err {r : Rr} (h : r.e ≠ 0) : r.uint = (r, 0) := by simp [Rr.uint, take_err h]
theorem raw_err {r : Rr} (h : r.e ≠ 0) (n : Int) : r.raw n = (r, []) := by
  unfold Rr.raw
  split
  · rw [fail_err h]
  · rw [take_err h]
theorem bytes_err {r : Rr} (h : r.e ≠ 0) (n : Int) : r.bytes n = (r, []) := by simp [Rr.bytes, uint_err h, h]
theorem fin_ok (b : List UInt8) : Rr.fin ⟨b, 0⟩ = if b = [] then 0 else 12 := by simp [Rr.fin]
theorem fin_err {r : Rr} (h : r.e ≠ 0) : r.fin = r.e := by simp [Rr.fin, h]
theorem eta {r : Rr} (h : r.e = 0) : r = ⟨r.b, 0⟩ := by cases r; simp_all

theorem uint_step (y : UInt8) (b : List UInt8) : Rr.uint ⟨y :: b, 0⟩ = if 8 < y.toNat then (⟨b, 11⟩, 0) else if (Rr.take ⟨b, 0⟩ y.toNat).2.head? = some 0 then ((Rr.take ⟨b, 0⟩ y.toNat).1.fail 11, 0) else ((Rr.take ⟨b, 0⟩ y.toNat).1, val (Rr.take ⟨b, 0⟩ y.toNat).2) := by
  have h : Rr.take ⟨y :: b, 0⟩ 1 = (⟨b, 0⟩, [y]) := by simp [Rr.take]
  unfold Rr.uint
  simp only [h, fail_ok]

/-- What is put for a number is read as it. -/
theorem uint_enc {x : Nat} (hx : x < 18446744073709551616) (l : List UInt8) : Rr.uint ⟨encU x ++ l, 0⟩ = (⟨l, 0⟩, x) := by
  have h8 := digs_le8 hx
  have hn : (UInt8.ofNat (digs x).length).toNat = (digs x).length := by rw [UInt8.toNat_ofNat']; omega
  have ht : Rr.take ⟨digs x ++ l, 0⟩ (digs x).length = (⟨l, 0⟩, digs x) := by rw [take_ok (by simp)]; simp
  rw [encU, List.cons_append, uint_step, hn, ht, if_neg (by omega)]
  simp only [val_digs]
  rw [if_neg (digs_head x)]

/-- A number that is cut is none. -/
theorem uint_short {x : Nat} (hx : x < 18446744073709551616) (m : Nat) (hm : m < (encU x).length) : (Rr.uint ⟨(encU x).take m, 0⟩).1.e = 10 ∧ (Rr.uint ⟨(encU x).take m, 0⟩).2 = 0 := by
  have h8 := digs_le8 hx
  have hn : (UInt8.ofNat (digs x).length).toNat = (digs x).length := by rw [UInt8.toNat_ofNat']; omega
  cases m with
  | zero => simp [Rr.uint, Rr.take]
  | succ m =>
    simp only [encU, List.length_cons] at hm
    rw [encU, List.take_succ_cons, uint_step, hn, if_neg (by omega), take_short (by rw [List.length_take]; omega)]
    simp [val]

/-- A number that is read was put so; or there is an error. -/
theorem uint_cases (b : List UInt8) : (∃ x l, x < 18446744073709551616 ∧ b = encU x ++ l ∧ Rr.uint ⟨b, 0⟩ = (⟨l, 0⟩, x)) ∨ ((Rr.uint ⟨b, 0⟩).1.e ≠ 0 ∧ (Rr.uint ⟨b, 0⟩).2 = 0) := by
  cases b with
  | nil => right; simp [Rr.uint, Rr.take]
  | cons y b =>
    rw [uint_step]
    by_cases h8 : 8 < y.toNat
    · right
      rw [if_pos h8]
      simp
    · rw [if_neg h8]
      by_cases hl : b.length < y.toNat
      · right
        rw [take_short hl]
        simp [val]
      · rw [take_ok (by omega)]
        simp only [fail_ok]
        by_cases hh : (b.take y.toNat).head? = some 0
        · right
          rw [if_pos hh]
          simp
        · left
          have hlen : (b.take y.toNat).length = y.toNat := by rw [List.length_take]; omega
          have hd := digs_val _ hh
          have hv := val_lt (b.take y.toNat)
          have hx : val (b.take y.toNat) < 18446744073709551616 := by
            refine Nat.lt_of_lt_of_le hv ?_
            rw [hlen]
            exact Nat.le_trans (Nat.pow_le_pow_right (by omega) (show y.toNat ≤ 8 by omega)) (by decide)
          have he : y :: b = encU (val (b.take y.toNat)) ++ b.drop y.toNat := by
            rw [encU, hd, hlen, List.cons_append, List.take_append_drop]
            simp
          exact ⟨val (b.take y.toNat), b.drop y.toNat, hx, he, by rw [if_neg hh]⟩

theorem uint_lt (r : Rr) : r.uint.2 < 18446744073709551616 := by
  by_cases h : r.e = 0
  · rw [eta h]
    rcases uint_cases r.b with ⟨x, l, hx, _, e⟩ | ⟨_, e⟩
    · rw [e]; exact hx
    · rw [e]; omega
  · rw [uint_err h]; simp

/-- What is put for bytes is read as they. -/
theorem bytes_enc {b : List UInt8} (hb : b.length < 18446744073709551616) (l : List UInt8) {most : Int} (hm : (b.length : Int) ≤ most) : Rr.bytes ⟨encB b ++ l, 0⟩ most = (⟨l, 0⟩, b) := by
  simp only [Rr.bytes, encB, List.append_assoc, uint_enc hb]
  rw [if_neg (by simp), if_neg (by omega)]
  simp only [Rr.raw]
  rw [if_neg (by omega), Int.toNat_natCast, take_ok (by simp)]
  simp
theorem bytes_big {b : List UInt8} (hb : b.length < 18446744073709551616) (l : List UInt8) {most : Int} (hm : most < (b.length : Int)) : Rr.bytes ⟨encB b ++ l, 0⟩ most = (⟨b ++ l, 13⟩, []) := by
  simp only [Rr.bytes, encB, List.append_assoc, uint_enc hb]
  rw [if_neg (by simp), if_pos (.inr hm), fail_ok]
theorem raw_enc (b l : List UInt8) : Rr.raw ⟨b ++ l, 0⟩ (b.length : Int) = (⟨l, 0⟩, b) := by
  simp only [Rr.raw]
  rw [if_neg (by omega), Int.toNat_natCast, take_ok (by simp)]
  simp

/-- What is left does not grow. -/
theorem take_left (r : Rr) (n : Nat) : (r.take n).1.b.length ≤ r.b.length := by
  unfold Rr.take
  split
  · simp
  · split <;> simp
end Rr
end Go.NB
