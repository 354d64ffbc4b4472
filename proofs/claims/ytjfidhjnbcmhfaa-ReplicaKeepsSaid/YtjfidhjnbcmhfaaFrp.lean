/- Frames put and got: plain laws. -/
import Derived.Test.YtjfidhjnbcmhfaaFrm
import Derived.Test.YtjfidhjnbcmhfaaBurst
namespace Go.Proofs.Ytjfidhjnbcmhfaa
open Go.NB.Crc
open Go.NB (Rr encU encB digs val)

theorem sealedL_len (l : List UInt8) : (sealedL l).length = l.length + 4 := by simp [sealedL, four]
theorem sealedL_take (l : List UInt8) : (sealedL l).take l.length = l := by simp [sealedL]
theorem right_sealed (l : List UInt8) : rightL (sealedL l) = true := by
  unfold rightL
  rw [sealedL_len, Nat.add_sub_cancel, sealedL_take]
  simp
theorem right_is {b : List UInt8} (h : rightL b = true) : 4 ≤ b.length ∧ b = sealedL (b.take (b.length - 4)) := by
  unfold rightL at h
  simp only [Bool.and_eq_true, decide_eq_true_eq, beq_iff_eq] at h
  exact ⟨h.1, h.2.symm⟩
theorem four_inj {x y : Nat} (hx : x < 4294967296) (hy : y < 4294967296) (h : four x = four y) : x = y := by
  have h' : NB.Crc.four x = NB.Crc.four y := h
  rw [← four_num x hx, ← four_num y hy, h']
theorem sum_lt (m : List UInt8) : sumR [m] < 4294967296 := by unfold sumR; omega
/-- One byte that is another one. -/
theorem right_set (m : List UInt8) (i : Nat) (hi : i < m.length + 4) (d : UInt8) (hd : (sealedL m).getD i 0 ≠ d) : rightL ((sealedL m).set i d) = false := by
  have hl := sealedL_len m
  by_cases h : i < m.length
  · have e : (sealedL m).set i d = m.set i d ++ four (sumR [m]) := by rw [sealedL, List.set_append, if_pos h]
    have hg : m.getD i 0 = (sealedL m).getD i 0 := by simp only [List.getD, sealedL]; rw [List.getElem?_append_left h]
    cases hr : rightL ((sealedL m).set i d) with
    | false => rfl
    | true =>
      obtain ⟨_, h2⟩ := right_is hr
      rw [e, List.length_append, List.length_set] at h2
      have h4 : (four (sumR [m])).length = 4 := rfl
      rw [h4, Nat.add_sub_cancel, List.take_left' (by simp)] at h2
      have h3 : four (sumR [m]) = four (sumR [m.set i d]) := by
        unfold sealedL at h2
        exact List.append_cancel_left h2
      have h5 := four_inj (sum_lt _) (sum_lt _) h3
      exact absurd (hg.symm.trans ((sum_set m i d h).1 h5)) hd
  · have e : (sealedL m).set i d = m ++ (four (sumR [m])).set (i - m.length) d := by rw [sealedL, List.set_append, if_neg h]
    cases hr : rightL ((sealedL m).set i d) with
    | false => rfl
    | true =>
      obtain ⟨_, h2⟩ := right_is hr
      have h4 : ((four (sumR [m])).set (i - m.length) d).length = 4 := by rw [List.length_set]; rfl
      rw [e, List.length_append, h4, Nat.add_sub_cancel, List.take_left' rfl, ← e] at h2
      have : ((sealedL m).set i d).getD i 0 = d := by simp [List.getD, hl, hi]
      rw [h2] at this
      exact absurd this hd

/-- The bytes of a frame. -/
def fbL (f : Fr) : List UInt8 := sealedL (encU f.2.length ++ [f.1] ++ f.2)
theorem fbL_len (f : Fr) : (fbL f).length = (encU f.2.length).length + f.2.length + 5 := by
  unfold fbL; rw [sealedL_len]; simp; omega
theorem fbL_eq (f : Fr) : fbL f = encU f.2.length ++ f.1 :: (f.2 ++ four (sumR [encU f.2.length ++ [f.1] ++ f.2])) := by
  unfold fbL sealedL; simp
theorem fput_is {f : Fr} (h : f.2.length ≤ 65535) : fputM f = (fbL f, 0) := by unfold fputM; rw [if_neg (by omega)]; rfl
theorem fput_big {f : Fr} (h : 65535 < f.2.length) : fputM f = ([], 13) := by unfold fputM; rw [if_pos h]

/-- What is put is got, whatever stands behind. -/
theorem fget_put (f : Fr) (h : f.2.length ≤ 65535) (t : List UInt8) : fgetM (fbL f ++ t) = (f, (fbL f).length, 0) := by
  obtain ⟨k, b⟩ := f
  simp only at h
  have h4 : (four (sumR [encU b.length ++ [k] ++ b])).length = 4 := rfl
  have e : fbL (k, b) ++ t = encU b.length ++ k :: (b ++ (four (sumR [encU b.length ++ [k] ++ b]) ++ t)) := by rw [fbL_eq]; simp
  have hu := Rr.uint_enc (x := b.length) (by omega) (k :: (b ++ (four (sumR [encU b.length ++ [k] ++ b]) ++ t)))
  have hlen : (fbL (k, b) ++ t).length - (k :: (b ++ (four (sumR [encU b.length ++ [k] ++ b]) ++ t))).length = (encU b.length).length := by rw [e]; simp
  have hr : rightL ((fbL (k, b) ++ t).take ((encU b.length).length + b.length + 5)) = true := by
    rw [List.take_left' (by rw [fbL_len])]
    exact right_sealed _
  have hsh : ¬ (k :: (b ++ (four (sumR [encU b.length ++ [k] ++ b]) ++ t))).length < b.length + 5 := by rw [List.length_cons, List.length_append, List.length_append, h4]; omega
  unfold fgetM
  rw [e] at hlen hr ⊢
  simp only [hu, hlen]
  rw [if_neg (by simp), if_neg (by omega), if_neg hsh, if_neg (by rw [hr]; simp), fbL_len]
  simp
/-- What is got is put. -/
theorem fput_get {c : List UInt8} {f : Fr} {n : Nat} (h : fgetM c = (f, n, 0)) : fputM f = (c.take n, 0) ∧ 6 ≤ n ∧ n ≤ c.length ∧ f.2.length ≤ 65535 ∧ n = (fbL f).length := by
  rcases get_ways c with ⟨e, _, h0, hm⟩ | ⟨x, l, _, _, _, _, hm⟩ | ⟨x, l, _, _, _, _, hm⟩ | ⟨x, l, _, _, _, _, _, hm⟩ | ⟨x, k, l, e, _, hb, hl, hr, hm⟩
  · rw [hm] at h; cases h; exact absurd rfl h0
  · rw [hm] at h; cases h
  · rw [hm] at h; cases h
  · rw [hm] at h; cases h
  · rw [hm] at h
    cases h
    have hp := fget_pos c (by rw [hm])
    rw [hm] at hp
    simp only at hp
    have hx : (l.take x).length = x := by rw [List.length_take]; omega
    have hct : c.take ((encU x).length + x + 5) = encU x ++ k :: l.take (x + 4) := by
      rw [e, List.take_append, List.take_of_length_le (by omega)]
      congr 1
      rw [show (encU x).length + x + 5 - (encU x).length = (x + 4) + 1 by omega, List.take_succ_cons]
    obtain ⟨_, h2⟩ := right_is hr
    have hm2 : (c.take ((encU x).length + x + 5)).take ((c.take ((encU x).length + x + 5)).length - 4) = encU x ++ [k] ++ l.take x := by
      rw [hct]
      have : (encU x ++ k :: l.take (x + 4)).length - 4 = (encU x).length + (x + 1) := by simp; omega
      rw [this, List.take_append, List.take_of_length_le (by omega)]
      rw [show (encU x).length + (x + 1) - (encU x).length = x + 1 by omega, List.take_succ_cons, List.take_take, Nat.min_eq_left (by omega)]
      simp
    rw [hm2] at h2
    refine ⟨?_, hp.1, hp.2, by rw [hx]; exact hb, by rw [fbL_len, hx]⟩
    rw [fput_is (by rw [hx]; exact hb), h2]
    simp only [fbL, hx]
/-- Cut anywhere it is none. -/
theorem fget_cut {c : List UInt8} {f : Fr} {n : Nat} (h : fgetM c = (f, n, 0)) (m : Nat) (hm : m < n) : (fgetM (c.take m)).2.2 = 10 := by
  rcases get_ways c with ⟨e, _, h0, hw⟩ | ⟨x, l, _, _, _, _, hw⟩ | ⟨x, l, _, _, _, _, hw⟩ | ⟨x, l, _, _, _, _, _, hw⟩ | ⟨x, k, l, e, _, hb, hl, hr, hw⟩
  · rw [hw] at h; cases h; exact absurd rfl h0
  · rw [hw] at h; cases h
  · rw [hw] at h; cases h
  · rw [hw] at h; cases h
  · rw [hw] at h
    cases h
    have hx : x < 18446744073709551616 := by omega
    have hxl := NB.encU_len hx
    by_cases h1 : m < (encU x).length
    · have hs := Rr.uint_short hx m h1
      have e1 : c.take m = (encU x).take m := by rw [e, List.take_append_of_le_length (by omega)]
      unfold fgetM
      rw [e1]
      simp only
      rw [if_pos (by rw [hs.1]; decide)]
      exact hs.1
    · have e1 : c.take m = encU x ++ (k :: l).take (m - (encU x).length) := by rw [e, List.take_append, List.take_of_length_le (by omega)]
      have hu := Rr.uint_enc hx ((k :: l).take (m - (encU x).length))
      unfold fgetM
      rw [e1]
      simp only [hu]
      rw [if_neg (by simp), if_neg (by omega), if_pos (by rw [List.length_take]; omega)]
/-- Spoiled behind its length it is none. -/
theorem fget_spoil (f : Fr) (h : f.2.length ≤ 65535) (i : Nat) (h1 : (encU f.2.length).length ≤ i) (h2 : i < (fbL f).length) (d : UInt8) (hd : (fbL f).getD i 0 ≠ d) : (fgetM ((fbL f).set i d)).2.2 = 14 := by
  obtain ⟨k, b⟩ := f
  simp only at h h1
  have hr := right_set (encU b.length ++ [k] ++ b) i (by rw [fbL_len] at h2; simp at *; omega) d hd
  have hlen : ((fbL (k, b)).set i d).length = (encU b.length).length + b.length + 5 := by rw [List.length_set, fbL_len]
  have e : (fbL (k, b)).set i d = encU b.length ++ ((fbL (k, b)).set i d).drop (encU b.length).length := by
    have : ((fbL (k, b)).set i d).take (encU b.length).length = encU b.length := by
      rw [List.take_set, fbL_eq, List.take_left' rfl, List.set_eq_of_length_le (by simpa using h1)]
    have h0 := List.take_append_drop (encU b.length).length ((fbL (k, b)).set i d)
    rw [this] at h0
    exact h0.symm
  have hu := Rr.uint_enc (x := b.length) (by omega) (((fbL (k, b)).set i d).drop (encU b.length).length)
  have hdl : (((fbL (k, b)).set i d).drop (encU b.length).length).length = b.length + 5 := by rw [List.length_drop, hlen]; omega
  rw [← e] at hu
  unfold fgetM
  simp only [hu, hlen, hdl]
  rw [if_neg (by simp), if_neg (by omega), if_neg (by omega)]
  rw [show (encU b.length).length + b.length + 5 - (b.length + 5) + b.length + 5 = ((fbL (k, b)).set i d).length by rw [hlen]; omega, List.take_length]
  have hr' : rightL ((fbL (k, b)).set i d) = false := hr
  rw [if_pos hr']
end Go.Proofs.Ytjfidhjnbcmhfaa
