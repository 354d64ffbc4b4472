/- Entries put and got: plain laws. -/
import Derived.Test.YthemdfcokphjeaaDdc
namespace Go.Proofs.Ythemdfcokphjeaa
open Go.NB (Rr encU encB B64)

theorem uint_take {x : Nat} (hx : B64 x) (l : List UInt8) (k : Nat) : ((Rr.uint ⟨(encU x ++ l).take k, 0⟩).1.e = 10 ∧ k < (encU x).length) ∨ ((encU x).length ≤ k ∧ Rr.uint ⟨(encU x ++ l).take k, 0⟩ = (⟨l.take (k - (encU x).length), 0⟩, x)) := by
  rcases Nat.lt_or_ge k (encU x).length with h | h
  · refine .inl ⟨?_, h⟩
    rw [List.take_append_of_le_length (by omega)]
    exact (Rr.uint_short hx k h).1
  · refine .inr ⟨h, ?_⟩
    rw [List.take_append, List.take_of_length_le h]
    exact Rr.uint_enc hx _
theorem get_put {x y : Nat} {b : List UInt8} (hx : B64 x) (hy : B64 y) (hb : b.length ≤ 1024) : getM (encU x ++ encU y ++ encB b) = ((x, y, b), 0) := by
  have e3 := Rr.bytes_enc (b := b) (by omega) [] (most := 1024) (by omega)
  rw [List.append_nil] at e3
  simp only [getM, List.append_assoc, Rr.uint_enc hx, Rr.uint_enc hy, e3, Rr.fin_ok]
  simp
theorem get_more {x y : Nat} {b : List UInt8} (hx : B64 x) (hy : B64 y) (hb : b.length ≤ 1024) (z : UInt8) : (getM (encU x ++ encU y ++ encB b ++ [z])).2 = 12 := by
  have e3 := Rr.bytes_enc (b := b) (by omega) [z] (most := 1024) (by omega)
  simp only [getM, List.append_assoc, Rr.uint_enc hx, Rr.uint_enc hy, e3, Rr.fin_ok]
  simp
theorem get_short {x y : Nat} {b : List UInt8} (hx : B64 x) (hy : B64 y) (hb : b.length ≤ 1024) (k : Nat) (hk : k < (encU x ++ encU y ++ encB b).length) : (getM ((encU x ++ encU y ++ encB b).take k)).2 = 10 := by
  have fin10 : ∀ r : Rr, r.e = 10 → r.fin = 10 := fun r h => by rw [Rr.fin_err (by omega), h]
  have key : ∀ t : Rr × List UInt8, t.1.e = 10 → ∀ u v : Nat, (if t.1.fin ≠ 0 then (((0, 0, []) : En), t.1.fin) else ((u, v, t.2), 0)).2 = 10 := fun t ht u v => by rw [fin10 _ ht]; rfl
  simp only [getM]
  apply key
  rw [List.append_assoc] at hk ⊢
  rcases uint_take hx (encU y ++ encB b) k with ⟨h1, _⟩ | ⟨h1, h2⟩
  · rw [Rr.uint_err (r := (Rr.uint ⟨(encU x ++ (encU y ++ encB b)).take k, 0⟩).1) (by omega), Rr.bytes_err (by simp only; omega)]
    exact h1
  · rw [h2]
    simp only
    rcases uint_take hy (encB b) (k - (encU x).length) with ⟨h3, _⟩ | ⟨h3, h4⟩
    · rw [Rr.bytes_err (by omega)]
      exact h3
    · rw [h4]
      simp only [encB]
      have hbl : B64 b.length := by unfold B64; omega
      have hk' : k - (encU x).length - (encU y).length < (encU b.length).length + b.length := by simp [encB] at hk; omega
      generalize k - (encU x).length - (encU y).length = m at *
      rcases uint_take hbl b m with ⟨h5, _⟩ | ⟨h5, h6⟩
      · have : Rr.bytes ⟨(encU b.length ++ b).take m, 0⟩ 1024 = ((Rr.uint ⟨(encU b.length ++ b).take m, 0⟩).1, []) := by
          simp only [Rr.bytes]
          rw [if_pos (by omega)]
        rw [this]
        exact h5
      · have : Rr.bytes ⟨(encU b.length ++ b).take m, 0⟩ 1024 = (⟨b.take (m - (encU b.length).length), 10⟩, []) := by
          simp only [Rr.bytes, h6]
          rw [if_neg (by simp), if_neg (by omega)]
          simp only [Rr.raw]
          rw [if_neg (by omega), Int.toNat_natCast, Rr.take_short (by rw [List.length_take]; omega)]
        rw [this]
/-- What is got is put. -/
theorem bytes_cases (b : List UInt8) (h : (Rr.bytes ⟨b, 0⟩ 1024).1.fin = 0) : b = encB (Rr.bytes ⟨b, 0⟩ 1024).2 ∧ (Rr.bytes ⟨b, 0⟩ 1024).2.length ≤ 1024 := by
  have nz : ∀ r : Rr, r.e ≠ 0 → r.fin ≠ 0 := fun r h => by rw [Rr.fin_err h]; exact h
  rcases Rr.uint_cases b with ⟨n, l, hn, e, hu⟩ | ⟨he, _⟩
  · have hq : Rr.bytes ⟨b, 0⟩ 1024 = if (1024 : Int) < 0 ∨ (1024 : Int) < (n : Int) then (⟨l, 13⟩, []) else Rr.raw ⟨l, 0⟩ n := by
      simp only [Rr.bytes, hu, Rr.fail_ok]
      rw [if_neg (by simp)]
    rw [hq] at h ⊢
    split at h
    · exact absurd h (nz _ (by simp))
    · rename_i hn1
      rw [if_neg hn1]
      simp only [Rr.raw] at h ⊢
      rw [if_neg (by omega), Int.toNat_natCast] at h ⊢
      rcases Nat.lt_or_ge l.length n with hl | hl
      · rw [Rr.take_short hl] at h
        exact absurd h (nz _ (by simp))
      · rw [Rr.take_ok hl] at h ⊢
        rw [Rr.fin_ok] at h
        split at h
        · rename_i hd
          have hll : l.length = n := by
            have := congrArg List.length hd
            simp at this; omega
          simp only
          rw [List.take_of_length_le (by omega)]
          exact ⟨by rw [encB, hll, e], by omega⟩
        · simp at h
  · have hq : Rr.bytes ⟨b, 0⟩ 1024 = ((Rr.uint ⟨b, 0⟩).1, []) := by
      simp only [Rr.bytes]
      rw [if_pos he]
    rw [hq] at h
    exact absurd h (nz _ he)
theorem get_cases (b : List UInt8) (h : (getM b).2 = 0) : B64 (getM b).1.1 ∧ B64 (getM b).1.2.1 ∧ (getM b).1.2.2.length ≤ 1024 ∧ b = encU (getM b).1.1 ++ encU (getM b).1.2.1 ++ encB (getM b).1.2.2 := by
  have nz : ∀ r : Rr, r.e ≠ 0 → r.fin ≠ 0 := fun r h => by rw [Rr.fin_err h]; exact h
  have hf : (((Rr.uint ⟨b, 0⟩).1.uint).1.bytes 1024).1.fin = 0 := by
    by_cases hz : (((Rr.uint ⟨b, 0⟩).1.uint).1.bytes 1024).1.fin = 0
    · exact hz
    · simp only [getM] at h
      rw [if_pos hz] at h
      exact h
  have hg : getM b = (((Rr.uint ⟨b, 0⟩).2, ((Rr.uint ⟨b, 0⟩).1.uint).2, (((Rr.uint ⟨b, 0⟩).1.uint).1.bytes 1024).2), 0) := by
    simp only [getM]
    rw [if_neg (by simp [hf])]
  rw [hg]
  rcases Rr.uint_cases b with ⟨x, l, hx, e, hu⟩ | ⟨he, _⟩
  · rw [hu] at hf ⊢
    simp only at hf ⊢
    rcases Rr.uint_cases l with ⟨y, l2, hy, e2, hv⟩ | ⟨he, _⟩
    · rw [hv] at hf ⊢
      simp only at hf ⊢
      obtain ⟨h1, h2⟩ := bytes_cases l2 hf
      exact ⟨hx, hy, h2, by rw [e, e2, List.append_assoc]; congr 2⟩
    · rw [Rr.bytes_err (by exact he)] at hf
      exact absurd hf (nz _ he)
  · rw [Rr.uint_err (r := (Rr.uint ⟨b, 0⟩).1) he, Rr.bytes_err (by exact he)] at hf
    exact absurd hf (nz _ he)
theorem get_bad (b : List UInt8) (h : (getM b).2 ≠ 0) : (getM b).1 = (0, 0, []) := by
  simp only [getM] at h ⊢
  split at h
  · rename_i hz
    rw [if_pos hz]
  · simp at h
end Go.Proofs.Ythemdfcokphjeaa
