/- Frames, in plain lists: put, got, all. No walk in sight. -/
import Derived.Test.YtjfidhjnbcmhfaaSum
import Derived.Test.YtjfidhjnbcmhfaaNump
namespace Go.Proofs.Ytjfidhjnbcmhfaa
open Go.NB.Crc
open Go.NB (Rr encU encB digs val)

abbrev Fr := UInt8 × List UInt8
def fputM (f : Fr) : List UInt8 × Int := if 65535 < f.2.length then ([], 13) else (sealedL (encU f.2.length ++ [f.1] ++ f.2), 0)
def fgetM (b : List UInt8) : Fr × Nat × Int :=
  let u := Rr.uint ⟨b, 0⟩
  if u.1.e ≠ 0 then ((0, []), 0, u.1.e)
  else if 65535 < u.2 then ((0, []), 0, 13)
  else if u.1.b.length < u.2 + 5 then ((0, []), 0, 10)
  else if rightL (b.take (b.length - u.1.b.length + u.2 + 5)) = false then ((0, []), 0, 14)
  else ((u.1.b.headD 0, (u.1.b.drop 1).take u.2), b.length - u.1.b.length + u.2 + 5, 0)

/-- The ways of a get. -/
inductive GetW (b : List UInt8) : Prop where
  | bad (e : Int) (h : (Rr.uint ⟨b, 0⟩).1.e = e) (h0 : e ≠ 0) (hm : fgetM b = ((0, []), 0, e))
  | big (x : Nat) (l : List UInt8) (hx : x < 18446744073709551616) (h : b = encU x ++ l) (hu : Rr.uint ⟨b, 0⟩ = (⟨l, 0⟩, x)) (hb : 65535 < x) (hm : fgetM b = ((0, []), 0, 13))
  | short (x : Nat) (l : List UInt8) (h : b = encU x ++ l) (hu : Rr.uint ⟨b, 0⟩ = (⟨l, 0⟩, x)) (hb : x ≤ 65535) (hl : l.length < x + 5) (hm : fgetM b = ((0, []), 0, 10))
  | sum (x : Nat) (l : List UInt8) (h : b = encU x ++ l) (hu : Rr.uint ⟨b, 0⟩ = (⟨l, 0⟩, x)) (hb : x ≤ 65535) (hl : x + 5 ≤ l.length) (hr : rightL (b.take ((encU x).length + x + 5)) = false) (hm : fgetM b = ((0, []), 0, 14))
  | ok (x : Nat) (k : UInt8) (l : List UInt8) (h : b = encU x ++ k :: l) (hu : Rr.uint ⟨b, 0⟩ = (⟨k :: l, 0⟩, x)) (hb : x ≤ 65535) (hl : x + 4 ≤ l.length) (hr : rightL (b.take ((encU x).length + x + 5)) = true) (hm : fgetM b = ((k, l.take x), (encU x).length + x + 5, 0))

theorem get_ways (b : List UInt8) : GetW b := by
  rcases Rr.uint_cases b with ⟨x, l, hx, e, hu⟩ | ⟨he, _⟩
  · have hlen : b.length - l.length = (encU x).length := by rw [e]; simp
    have hq : fgetM b = if 65535 < x then ((0, []), 0, 13) else if l.length < x + 5 then ((0, []), 0, 10) else if rightL (b.take ((encU x).length + x + 5)) = false then ((0, []), 0, 14) else ((l.headD 0, (l.drop 1).take x), (encU x).length + x + 5, 0) := by
      simp only [fgetM, hu, hlen]
      rw [if_neg (by simp)]
    by_cases h1 : 65535 < x
    · exact .big x l hx e hu h1 (by rw [hq, if_pos h1])
    by_cases h2 : l.length < x + 5
    · exact .short x l e hu (by omega) h2 (by rw [hq, if_neg h1, if_pos h2])
    cases hr : rightL (b.take ((encU x).length + x + 5)) with
    | false => exact .sum x l e hu (by omega) (by omega) hr (by rw [hq, if_neg h1, if_neg h2, hr]; rfl)
    | true =>
      cases l with
      | nil => simp at h2
      | cons k l => exact .ok x k l e hu (by omega) (by simp at h2; omega) hr (by rw [hq, if_neg h1, if_neg h2, hr]; simp)
  · refine .bad _ rfl he ?_
    simp only [fgetM]
    rw [if_pos he]

/-- The first nine bytes tell it. -/
theorem uint_nine (b : List UInt8) : (Rr.uint ⟨b.take 9, 0⟩).1.e = (Rr.uint ⟨b, 0⟩).1.e ∧ (Rr.uint ⟨b.take 9, 0⟩).2 = (Rr.uint ⟨b, 0⟩).2 := by
  cases b with
  | nil => exact ⟨rfl, rfl⟩
  | cons y t =>
    rw [List.take_succ_cons, Rr.uint_step, Rr.uint_step]
    by_cases h8 : 8 < y.toNat
    · rw [if_pos h8, if_pos h8]; exact ⟨rfl, rfl⟩
    · rw [if_neg h8, if_neg h8]
      by_cases hl : t.length < y.toNat
      · rw [Rr.take_short hl, Rr.take_short (by rw [List.length_take]; omega)]
        exact ⟨rfl, rfl⟩
      · rw [Rr.take_ok (b := t.take 8) (by rw [List.length_take]; omega), Rr.take_ok (b := t) (by omega), List.take_take, Nat.min_eq_left (by omega)]
        simp only [Rr.fail_ok]
        split <;> exact ⟨rfl, rfl⟩

theorem fget_pos (b : List UInt8) (h : (fgetM b).2.2 = 0) : 6 ≤ (fgetM b).2.1 ∧ (fgetM b).2.1 ≤ b.length := by
  rcases get_ways b with ⟨e, _, h0, hm⟩ | ⟨x, l, _, _, _, _, hm⟩ | ⟨x, l, _, _, _, _, hm⟩ | ⟨x, l, _, _, _, _, _, hm⟩ | ⟨x, k, l, e, _, hb, hl, _, hm⟩
  · rw [hm] at h; exact absurd h h0
  · rw [hm] at h; simp at h
  · rw [hm] at h; simp at h
  · rw [hm] at h; simp at h
  · rw [hm]
    have h1 : 1 ≤ (encU x).length := by simp [encU]
    have := congrArg List.length e
    simp at this
    simp only
    omega
/-- All whole frames at the front of bytes, and how many bytes they have. -/
def fallM (b : List UInt8) : List Fr × Nat :=
  if h : (fgetM b).2.2 = 0 then ((fgetM b).1 :: (fallM (b.drop (fgetM b).2.1)).1, (fgetM b).2.1 + (fallM (b.drop (fgetM b).2.1)).2) else ([], 0)
termination_by b.length
decreasing_by all_goals (have := fget_pos b h; simp; omega)
theorem fall_ok {b : List UInt8} {f : Fr} {n : Nat} (h : fgetM b = (f, n, 0)) : fallM b = (f :: (fallM (b.drop n)).1, n + (fallM (b.drop n)).2) := by
  rw [fallM, dif_pos (by rw [h]), h]
theorem fall_no {b : List UInt8} (h : (fgetM b).2.2 ≠ 0) : fallM b = ([], 0) := by
  rw [fallM, dif_neg h]
end Go.Proofs.Ytjfidhjnbcmhfaa
