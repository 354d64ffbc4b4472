/- The cell's blocks, in plain lists: what is opened, behind a set, behind a torn one. No program in sight. -/
import Derived.Test.YtcdapjfaekamkaaCele
namespace Go.Proofs.Ytcdapjfaekamkaa
open Go.RowKit
open Go.NB (Rd Dk Kp Stp Off Dis val Ce footC)

def topC (c : Ce) (l : List UInt8) : Nat := max c.top (max (num8 l) (num8 (l.drop 56)))
def lookC (c : Ce) (i : Nat) (l : List UInt8) : Ce :=
  if (wholeL l && decide (c.turn < num8 l)) = true then { c with top := topC c l, now := (i : Int), turn := num8 l, b := (l.drop 9).take (l.getD 8 0).toNat } else { c with top := topC c l }
/-- What is opened of two blocks. -/
def pairC (n : Nat) (A B : List UInt8) : Ce := lookC (lookC ⟨n, -1, 0, 0, [], 0⟩ 0 A) 1 B
def openL (n : Nat) (l : List (List UInt8)) : Ce := pairC n (l.getD n []) (l.getD (n + 1) [])

theorem toNat_of (k : Nat) (h : k < 256) : (UInt8.ofNat k).toNat = k := by
  rw [UInt8.toNat_ofNat']; exact Nat.mod_eq_of_lt h
theorem val_stamp (x : Nat) (hx : x < 18446744073709551616) : val (stamp8 x) = x := by
  have e : val (stamp8 x) = ((((((((0 * 256 + (UInt8.ofNat (x / 256 ^ 7 % 256)).toNat) * 256 + (UInt8.ofNat (x / 256 ^ 6 % 256)).toNat) * 256 + (UInt8.ofNat (x / 256 ^ 5 % 256)).toNat) * 256 + (UInt8.ofNat (x / 256 ^ 4 % 256)).toNat) * 256 + (UInt8.ofNat (x / 256 ^ 3 % 256)).toNat) * 256 + (UInt8.ofNat (x / 256 ^ 2 % 256)).toNat) * 256 + (UInt8.ofNat (x / 256 ^ 1 % 256)).toNat) * 256 + (UInt8.ofNat (x / 256 ^ 0 % 256)).toNat) := rfl
  rw [e]
  iterate 8 rw [toNat_of _ (Nat.mod_lt _ (by omega))]
  simp only [Nat.reducePow]
  omega
theorem laidL_form (T : Nat) (b : List UInt8) : ∃ r, laidL T b = stamp8 T ++ (UInt8.ofNat b.length :: (b ++ r)) :=
  ⟨zs (43 - b.length) ++ (four (NB.Crc.sumR [rowB T b]) ++ stamp8 T), by simp [laidL, sealedL, rowB]⟩
theorem laidL_take8 (T : Nat) (b : List UInt8) : (laidL T b).take 8 = stamp8 T := by
  obtain ⟨r, hr⟩ := laidL_form T b
  rw [hr, List.take_append_of_le_length (by rw [stamp8_len]; omega), List.take_of_length_le (by rw [stamp8_len]; omega)]
theorem sealed56 (T : Nat) (b : List UInt8) (h : b.length ≤ 43) : (sealedL (rowB T b)).length = 56 := by
  rw [sealedL, List.length_append, rowB_len T b h, four_len]
theorem laidL_take56 (T : Nat) (b : List UInt8) (h : b.length ≤ 43) : (laidL T b).take 56 = sealedL (rowB T b) := by
  have := sealed56 T b h
  rw [laidL, List.take_append_of_le_length (by omega), List.take_of_length_le (by omega)]
theorem laidL_drop56 (T : Nat) (b : List UInt8) (h : b.length ≤ 43) : (laidL T b).drop 56 = stamp8 T := by
  have := sealed56 T b h
  rw [laidL, List.drop_append_of_le_length (by omega), List.drop_of_length_le (by omega), List.nil_append]
theorem laidL_8 (T : Nat) (b : List UInt8) : (laidL T b).getD 8 0 = UInt8.ofNat b.length := by
  obtain ⟨r, hr⟩ := laidL_form T b
  have := stamp8_len T
  rw [hr, List.getD_eq_getElem?_getD, List.getElem?_append_right (by omega), this]
  rfl
theorem laidL_b (T : Nat) (b : List UInt8) (h : b.length ≤ 43) : ((laidL T b).drop 9).take ((laidL T b).getD 8 0).toNat = b := by
  rw [laidL_8, toNat_of _ (by omega)]
  obtain ⟨r, hr⟩ := laidL_form T b
  have := stamp8_len T
  have e : stamp8 T ++ (UInt8.ofNat b.length :: (b ++ r)) = (stamp8 T ++ [UInt8.ofNat b.length]) ++ (b ++ r) := by simp
  rw [hr, e, List.drop_append, List.drop_of_length_le (by simp; omega), show 9 - (stamp8 T ++ [UInt8.ofNat b.length]).length = 0 by simp [this], List.drop_zero, List.nil_append,
    List.take_append_of_le_length (by omega), List.take_of_length_le (by omega)]
theorem num8_laid (T : Nat) (b : List UInt8) (hT : T < 18446744073709551616) : num8 (laidL T b) = T := by rw [num8, laidL_take8, val_stamp T hT]
theorem num8_tail (T : Nat) (b : List UInt8) (h : b.length ≤ 43) (hT : T < 18446744073709551616) : num8 ((laidL T b).drop 56) = T := by
  rw [num8, laidL_drop56 T b h, List.take_of_length_le (by rw [stamp8_len]; omega), val_stamp T hT]
theorem rightL_sealed (T : Nat) (b : List UInt8) (h : b.length ≤ 43) : rightL (sealedL (rowB T b)) = true := by
  have h56 := sealed56 T b h
  have e : (sealedL (rowB T b)).take 52 = rowB T b := by
    rw [sealedL, List.take_append_of_le_length (by rw [rowB_len T b h]; omega), List.take_of_length_le (by rw [rowB_len T b h]; omega)]
  simp [rightL, h56, e]
theorem whole_laid (T : Nat) (b : List UInt8) (h : b.length ≤ 43) (h0 : 0 < T) (hT : T < 18446744073709551616) : wholeL (laidL T b) = true := by
  rw [wholeL, laidL_take8, laidL_drop56 T b h, laidL_take56 T b h, rightL_sealed T b h, laidL_8, toNat_of _ (by omega), num8_laid T b hT]
  simp [h, h0]

/-- A block that tells a turn and bytes. -/
structure Tells (L : List UInt8) (T : Nat) (b : List UInt8) : Prop where
  wh : wholeL L = true
  hd : num8 L = T
  tl : num8 (L.drop 56) = T
  by_ : (L.drop 9).take (L.getD 8 0).toNat = b
  pos : 0 < T
theorem tells_laid (T : Nat) (b : List UInt8) (h : b.length ≤ 43) (h0 : 0 < T) (hT : T < 18446744073709551616) : Tells (laidL T b) T b :=
  ⟨whole_laid T b h h0 hT, num8_laid T b hT, num8_tail T b h hT, laidL_b T b h, h0⟩

theorem look_at (c : Ce) (i : Nat) (l : List UInt8) : (lookC c i l).at_ = c.at_ ∧ (lookC c i l).e = c.e := by
  unfold lookC; split <;> exact ⟨rfl, rfl⟩
theorem look_top (c : Ce) (i : Nat) (l : List UInt8) : (lookC c i l).top = topC c l := by
  unfold lookC; split <;> rfl
theorem look_tells {c : Ce} {L : List UInt8} {T : Nat} {b : List UInt8} (h : Tells L T b) (i : Nat) (ht : c.turn < T) (hp : c.top ≤ T) : lookC c i L = { c with top := T, now := (i : Int), turn := T, b := b } := by
  have e1 : topC c L = T := by rw [topC, h.hd, h.tl]; omega
  unfold lookC
  rw [if_pos (by rw [h.wh, h.hd]; simpa using ht), e1, h.hd, h.by_]
theorem look_not {c : Ce} {L : List UInt8} (i : Nat) (h : wholeL L = false ∨ num8 L ≤ c.turn) : lookC c i L = { c with top := topC c L } := by
  unfold lookC
  rw [if_neg]
  rcases h with h | h
  · rw [h]; simp
  · simp; intro _; omega
theorem look_yes {c : Ce} {L : List UInt8} (i : Nat) (h : wholeL L = true) (ht : c.turn < num8 L) : lookC c i L = { c with top := topC c L, now := (i : Int), turn := num8 L, b := (L.drop 9).take (L.getD 8 0).toNat } := by
  unfold lookC
  rw [if_pos (by simp [h, ht])]
theorem whole_pos {l : List UInt8} (h : wholeL l = true) : 0 < num8 l := by
  simp [wholeL] at h; exact h.2
theorem pair_top (n : Nat) (A B : List UInt8) : (pairC n A B).top = max (max (num8 A) (num8 (A.drop 56))) (max (num8 B) (num8 (B.drop 56))) := by
  rw [pairC, look_top, topC, look_top, topC]
  simp
theorem pair_le (n : Nat) (A B : List UInt8) : (pairC n A B).turn ≤ (pairC n A B).top := by
  rw [pair_top]
  unfold pairC lookC
  split <;> split <;> simp <;> omega
theorem pair_at (n : Nat) (A B : List UInt8) : (pairC n A B).at_ = n ∧ (pairC n A B).e = 0 := by
  have h1 := look_at (lookC ⟨n, -1, 0, 0, [], 0⟩ 0 A) 1 B
  have h2 := look_at ⟨n, -1, 0, 0, [], 0⟩ 0 A
  exact ⟨h1.1.trans h2.1, h1.2.trans h2.2⟩
/-- Set while the first one tells: the second one is laid. -/
theorem pair_set1 (n : Nat) (A B : List UInt8) {L : List UInt8} {b : List UInt8} (h : Tells L ((pairC n A B).top + 1) b) :
    pairC n A L = { pairC n A B with now := 1, turn := (pairC n A B).top + 1, top := (pairC n A B).top + 1, b := b } := by
  have ha := pair_at n A B
  have ht := pair_top n A B
  have h2 := look_at ⟨n, -1, 0, 0, [], 0⟩ 0 A
  have h3 := look_top ⟨n, -1, 0, 0, [], 0⟩ 0 A
  have h4 : (lookC ⟨n, -1, 0, 0, [], 0⟩ 0 A).turn ≤ (pairC n A B).top := by
    rw [ht]; unfold lookC; split <;> simp <;> omega
  have h5 : (lookC ⟨n, -1, 0, 0, [], 0⟩ 0 A).top ≤ (pairC n A B).top := by
    rw [h3, ht, topC]; simp; omega
  generalize pairC n A B = c at *
  rw [pairC, look_tells h 1 (by omega) (by omega)]
  obtain ⟨a1, a2, a3, a4, a5, a6⟩ := c
  simp only at ha ht h4 h5 ⊢
  simp [ha.1, ha.2, h2.1, h2.2]
/-- Set while the first one doesn't tell: it is laid. -/
theorem pair_set0 (n : Nat) (A B : List UInt8) {L : List UInt8} {b : List UInt8} (h : Tells L ((pairC n A B).top + 1) b) :
    pairC n L B = { pairC n A B with now := 0, turn := (pairC n A B).top + 1, top := (pairC n A B).top + 1, b := b } := by
  have ha := pair_at n A B
  have ht := pair_top n A B
  generalize pairC n A B = c at *
  have h1 := look_tells (c := ⟨n, -1, 0, 0, [], 0⟩) h 0 (by simp only; omega) (by simp only; omega)
  obtain ⟨a1, a2, a3, a4, a5, a6⟩ := c
  simp only at ha ht h h1 ⊢
  rw [pairC, h1, look_not 1 (.inr (by simp only; omega)), topC]
  simp only [ha.1, ha.2]
  simp
  omega
theorem pair_torn1 (n : Nat) (A B : List UInt8) (hn : (pairC n A B).now = 0) {M : List UInt8} {T : Nat} (hw : wholeL M = false) (h1 : num8 M = T) (h2 : num8 (M.drop 56) ≤ T) (h3 : (pairC n A B).top ≤ T) :
    pairC n A M = { pairC n A B with top := T } := by
  have ht := pair_top n A B
  have e0 : lookC (lookC ⟨n, -1, 0, 0, [], 0⟩ 0 A) 1 B = { lookC ⟨n, -1, 0, 0, [], 0⟩ 0 A with top := topC (lookC ⟨n, -1, 0, 0, [], 0⟩ 0 A) B } := by
    by_cases hc : wholeL B = true ∧ (lookC ⟨n, -1, 0, 0, [], 0⟩ 0 A).turn < num8 B
    · exfalso
      have : (pairC n A B).now = 1 := by
        rw [pairC]
        generalize lookC ⟨n, -1, 0, 0, [], 0⟩ 0 A = c at *
        unfold lookC
        rw [if_pos (by simp [hc])]
        rfl
      omega
    · apply look_not
      cases hB : wholeL B
      · exact .inl rfl
      · refine .inr ?_
        simp only [hB, true_and] at hc
        omega
  have h3' : topC ⟨n, -1, 0, 0, [], 0⟩ A ≤ T := by
    rw [topC]; simp only; omega
  rw [pairC, pairC, e0, look_not 1 (.inl hw), topC, look_top, h1]
  have : max (topC ⟨n, -1, 0, 0, [], 0⟩ A) (max T (num8 (M.drop 56))) = T := by omega
  rw [this]
theorem pair_torn0 (n : Nat) (A B : List UInt8) (hn : (pairC n A B).now ≠ 0) {M : List UInt8} {T : Nat} (hw : wholeL M = false) (h1 : num8 M = T) (h2 : num8 (M.drop 56) ≤ T) (h3 : (pairC n A B).top ≤ T) :
    pairC n M B = { pairC n A B with top := T } := by
  have ht := pair_top n A B
  have e1 : lookC ⟨n, -1, 0, 0, [], 0⟩ 0 M = ⟨n, -1, 0, T, [], 0⟩ := by
    rw [look_not 0 (.inl hw), topC, h1]
    simp only [Ce.mk.injEq, and_self, and_true, true_and]
    omega
  by_cases hc : wholeL B = true ∧ (lookC ⟨n, -1, 0, 0, [], 0⟩ 0 A).turn < num8 B
  · have e2 : pairC n A B = { lookC ⟨n, -1, 0, 0, [], 0⟩ 0 A with top := (pairC n A B).top, now := 1, turn := num8 B, b := (B.drop 9).take (B.getD 8 0).toNat } := by
      rw [pairC]
      generalize lookC ⟨n, -1, 0, 0, [], 0⟩ 0 A = c at *
      unfold lookC
      rw [if_pos (by simp [hc])]
      rfl
    have h5 := look_at ⟨n, -1, 0, 0, [], 0⟩ 0 A
    rw [e2, pairC, e1, look_yes 1 hc.1 (whole_pos hc.1)]
    have h6 : (lookC ⟨n, -1, 0, 0, [], 0⟩ 0 A).at_ = n := h5.1
    have h7 : (lookC ⟨n, -1, 0, 0, [], 0⟩ 0 A).e = 0 := h5.2
    have : topC ⟨n, -1, 0, T, [], 0⟩ B = T := by simp only [topC]; omega
    simp only [this, h6, h7]
    rfl
  · have hb : wholeL B = false ∨ num8 B ≤ (lookC ⟨n, -1, 0, 0, [], 0⟩ 0 A).turn := by
      cases hB : wholeL B
      · exact .inl rfl
      · refine .inr ?_
        simp only [hB, true_and] at hc
        omega
    have e2 : pairC n A B = { lookC ⟨n, -1, 0, 0, [], 0⟩ 0 A with top := (pairC n A B).top } := by
      conv => lhs; rw [pairC]
      rw [look_not 1 hb]
      congr 1
      rw [pairC, look_not 1 hb]
    have hA : wholeL A = false := by
      cases hA : wholeL A
      · rfl
      · exfalso
        apply hn
        rw [e2]
        unfold lookC
        rw [if_pos (by simp [hA, whole_pos hA])]
        rfl
    have e3 := look_not (c := ⟨n, -1, 0, 0, [], 0⟩) (L := A) 0 (.inl hA)
    rw [e3] at hb e2
    rw [e2, pairC, e1]
    have hb' : wholeL B = false ∨ num8 B ≤ (⟨n, -1, 0, T, [], 0⟩ : Ce).turn := hb
    rw [look_not 1 hb', topC]
    simp only [Ce.mk.injEq, and_self, and_true, true_and]
    omega
end Go.Proofs.Ytcdapjfaekamkaa
