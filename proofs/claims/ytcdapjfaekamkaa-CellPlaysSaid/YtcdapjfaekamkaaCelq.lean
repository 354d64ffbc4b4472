/- A cell on a disk that is calm: what Open and Set come to. -/
import Derived.Test.YtcdapjfaekamkaaCelg
import Derived.Test.YtcdapjfaekamkaaDskf
namespace Go.Proofs.Ytcdapjfaekamkaa
open Go.RowKit
open Go.NB (Rd Dk Kp Stp Off Dis val Ce footC)

/-- Nothing waits, nothing will stop. -/
structure Calm (D : Dk) : Prop where
  left : D.left = -1
  down : D.down = false
  waits : D.waits = []
theorem calm_read {D : Dk} (h : Calm D) (i : Nat) (hi : i < D.l.length) : D.read (i : Int) = (D.l.getD i [], 0) := by
  have hn : ¬ ((i : Int) < 0 ∨ (D.l.length : Int) ≤ (i : Int)) := by omega
  have ha : D.at_ (i : Int) = 0 := by simp only [Dk.at_, h.down, hn, if_false, Bool.false_eq_true]
  simp only [Dk.read, ha, ne_eq, not_true_eq_false, if_false, Int.toNat_natCast, h.waits]
  rfl
theorem calm_fresh (m : Nat) : Calm (Dk.fresh m) := ⟨rfl, rfl, rfl⟩
theorem calm_openD {D : Dk} (h : Calm D) (n : Nat) (hn : n + 2 ≤ D.l.length) : openD n D = openL n D.l := by
  unfold openD
  rw [calm_read h n (by omega), calm_read h (n + 1) (by omega)]
  rfl
def toC (c : Ce) : Nat := if c.now = 0 then 1 else 0
theorem toC_le (c : Ce) : toC c ≤ 1 := by unfold toC; split <;> omega
/-- What a Set leaves of a cell. -/
def nextC (c : Ce) (b : List UInt8) : Ce := { c with now := (toC c : Nat), turn := c.top + 1, top := c.top + 1, b := b }
def nextD (c : Ce) (D : Dk) (b : List UInt8) : Dk := { D with l := D.l.set (c.at_ + toC c) (laidL (c.top + 1) b) }
theorem calm_set {c : Ce} {D : Dk} (h : Calm D) (he : c.e = 0) (hn : c.at_ + 2 ≤ D.l.length) (b : List UInt8) (hb : b.length ≤ 43) (ht : c.top + 1 < 18446744073709551616) :
    c.set D laidL b = ((nextC c b, nextD c D b), 0) := by
  obtain ⟨l, waits, left, down⟩ := D
  obtain ⟨h1, h2, h3⟩ := h
  simp only at h1 h2 h3 hn
  subst h1 h2 h3
  have h43 : ¬ 43 < b.length := by omega
  have htt : ¬ c.top + 1 = 18446744073709551616 := by omega
  have hll := laidL_len (c.top + 1) b hb
  have hto := toC_le c
  have hr : ¬ (((c.at_ + toC c : Nat) : Int) < 0 ∨ (l.length : Int) ≤ ((c.at_ + toC c : Nat) : Int)) := by omega
  have hT : (if c.now = 0 then 1 else 0) = toC c := rfl
  simp only [Ce.set, h43, he, htt, if_false, hT, ne_eq, not_true_eq_false]
  have hw : (⟨l, [], -1, false⟩ : Dk).write ((c.at_ + toC c : Nat) : Int) (laidL (c.top + 1) b) = (⟨l, [(c.at_ + toC c, laidL (c.top + 1) b)], -1, false⟩, 0) := by
    simp only [Dk.write, Dk.at_, hr, hll, if_false, ne_eq, not_true_eq_false, Int.toNat_natCast, Bool.false_eq_true]
    rfl
  rw [hw]
  simp [Dk.sync, Dk.lay, nextC, nextD, he]
  rfl

/-- The cell is what its disk tells. -/
structure Sits (n : Nat) (c : Ce) (D : Dk) : Prop where
  calm : Calm D
  len : n + 2 ≤ D.l.length
  op : c = openL n D.l
theorem Sits.at_ {n : Nat} {c : Ce} {D : Dk} (h : Sits n c D) : c.at_ = n ∧ c.e = 0 := by
  rw [h.op]; exact pair_at _ _ _
theorem getD_set_self (l : List (List UInt8)) (i : Nat) (h : i < l.length) (L : List UInt8) : (l.set i L).getD i [] = L := by
  rw [List.getD_eq_getElem?_getD, List.getElem?_set_self h]; rfl
theorem getD_set_ne (l : List (List UInt8)) (i j : Nat) (h : i ≠ j) (L : List UInt8) : (l.set i L).getD j [] = l.getD j [] := by
  rw [List.getD_eq_getElem?_getD, List.getElem?_set_ne h, List.getD_eq_getElem?_getD]
theorem openL_set0 (n : Nat) (l : List (List UInt8)) (hn : n + 2 ≤ l.length) (L : List UInt8) : openL n (l.set (n + 0) L) = pairC n L (l.getD (n + 1) []) := by
  rw [openL, Nat.add_zero, getD_set_self l n (by omega), getD_set_ne l n (n + 1) (by omega)]
theorem openL_set1 (n : Nat) (l : List (List UInt8)) (hn : n + 2 ≤ l.length) (L : List UInt8) : openL n (l.set (n + 1) L) = pairC n (l.getD n []) L := by
  rw [openL, getD_set_ne _ _ _ (by omega), getD_set_self _ _ (by omega)]
theorem sits_next {n : Nat} {c : Ce} {D : Dk} (h : Sits n c D) (b : List UInt8) (hb : b.length ≤ 43) (ht : c.top + 1 < 18446744073709551616) : Sits n (nextC c b) (nextD c D b) := by
  obtain ⟨hc, hl, ho⟩ := h
  refine ⟨⟨hc.left, hc.down, hc.waits⟩, by simpa [nextD] using hl, ?_⟩
  have ha : c.at_ = n := by rw [ho]; exact (pair_at _ _ _).1
  have hT := tells_laid (c.top + 1) b hb (by omega) ht
  have ho2 : c = pairC n (D.l.getD n []) (D.l.getD (n + 1) []) := ho
  by_cases h0 : c.now = 0
  · have e : toC c = 1 := if_pos h0
    have hT' : Tells (laidL (c.top + 1) b) ((pairC n (D.l.getD n []) (D.l.getD (n + 1) [])).top + 1) b := by rw [← ho2]; exact hT
    have h3 := pair_set1 n _ _ hT'
    rw [← ho2] at h3
    show _ = openL n (D.l.set (c.at_ + toC c) _)
    rw [e, ha, openL_set1 n _ hl, h3, nextC, e]
    rfl
  · have e : toC c = 0 := if_neg h0
    have hT' : Tells (laidL (c.top + 1) b) ((pairC n (D.l.getD n []) (D.l.getD (n + 1) [])).top + 1) b := by rw [← ho2]; exact hT
    have h3 := pair_set0 n _ _ hT'
    rw [← ho2] at h3
    show _ = openL n (D.l.set (c.at_ + toC c) _)
    rw [e, ha, openL_set0 n _ hl, h3, nextC, e]
    rfl
def zeroC (n : Nat) : Ce := ⟨n, -1, 0, 0, [], 0⟩
theorem num8_z : num8 (List.replicate 64 0) = 0 := by decide
theorem num8_zt : num8 ((List.replicate 64 0).drop 56) = 0 := by decide
theorem whole_z : wholeL (List.replicate 64 0) = false := by
  cases h : wholeL (List.replicate 64 0)
  · rfl
  · have := whole_pos h
    rw [num8_z] at this
    omega
theorem pair_z (n : Nat) : pairC n (List.replicate 64 0) (List.replicate 64 0) = zeroC n := by
  have e : ∀ i, lookC (zeroC n) i (List.replicate 64 0) = zeroC n := fun i => by
    rw [look_not i (.inl whole_z), topC, num8_z, num8_zt]; rfl
  show lookC (lookC (zeroC n) 0 _) 1 _ = _
  rw [e, e]
theorem sits_fresh (n m : Nat) (h : n + 2 ≤ m) : Sits n (zeroC n) (Dk.fresh m) := by
  refine ⟨calm_fresh m, by simpa [Dk.fresh] using h, ?_⟩
  have e : ∀ k, k < m → (Dk.fresh m).l.getD k [] = List.replicate 64 0 := fun k hk => by
    rw [Dk.fresh, List.getD_eq_getElem?_getD, List.getElem?_replicate, if_pos hk]; rfl
  rw [openL, e n (by omega), e (n + 1) (by omega), pair_z]

theorem block64 {w : World} {based p : Nat} {G : Nat → Prop} {D : Dk} (hD : HasD w based p G D) (i : Nat) (hi : i < D.l.length) : (D.l.getD i []).length = 64 := by
  rw [List.getD_eq_getElem?_getD, List.getElem?_eq_getElem hi]
  exact hD.l64 _ (List.getElem_mem hi)
/-- Open on a calm disk. -/
theorem open_calm (w : World) (based p : Nat) (G : Nat → Prop) (D : Dk) (n : Nat) (hD : HasD w based p G D) (hc : Calm D) (hn : n + 2 ≤ D.l.length) :
    Calls Try.prog 10 #[.pointer (some ⟨p, 0, none⟩), .int .i64 (n : Int)] w fun e w' => ∃ q F, e = .returned (.tuple #[.pointer (some ⟨q, 0, none⟩), .int .i64 0]) ∧ HasC w' based q p F (openL n D.l) ∧ HasD w' based p G D ∧ Dis F G ∧ w.heap.size ≤ q ∧ (∀ k, F k → w.heap.size ≤ k) ∧ Below w.heap.size w w' := by
  have e0 := calm_read hc n (by omega)
  have e1 := calm_read hc (n + 1) (by omega)
  refine (open_any w based p G D n hD hn (by rw [hc.waits]; exact Nat.zero_le _) (by rw [e0]) (by rw [e1]) (by rw [e0]; exact block64 hD n (by omega)) (by rw [e1]; exact block64 hD (n + 1) (by omega))).mono ?_
  rintro e w' ⟨q, F, rfl, hC, hb⟩
  rw [calm_openD hc n hn] at hC
  have hq : F q := by obtain ⟨v, _, rfl⟩ := hC; exact .inl rfl
  exact ⟨q, F, rfl, hC.mono hD.base_le, hD.below hb, fun k hf hg => by have := (hC.foot k hf).1; have := (hD.foot k hg).2; omega, (hC.foot q hq).1, fun k hk => (hC.foot k hk).1, hb⟩
/-- Set on a calm disk. -/
theorem set_calm (w : World) (base q p : Nat) (F G : Nat → Prop) (n : Nat) (c : Ce) (D : Dk) (a : Option Addr) (m cp : Nat) (bs : List UInt8) (hC : HasC w base q p F c) (hD : HasD w base p G D) (hFG : Dis F G)
    (hb : Off (fun k => F k ∨ G k) w a m cp bs) (hm : m ≤ 43) (hs : Sits n c D) (hn : n ≤ 1000000) (ht : c.top < 1000000) :
    Calls Try.prog 11 #[.pointer (some ⟨q, 0, none⟩), .slice a m cp] w fun e w' => e = .returned (.int .i64 0) ∧ ∃ F' G', HasC w' base q p F' (nextC c bs) ∧ HasD w' base p G' (nextD c D bs) ∧ Dis F' G' ∧ Stp (fun k => F k ∨ G k) (fun k => F' k ∨ G' k) w w' := by
  have hsz := NB.RdB.size hb.rd
  refine (set_any w base q p F G c D a m cp bs hC hD hFG hb (by omega) (by rw [hs.at_.1]; exact hn) (by omega) (by rw [hs.calm.waits]; exact Nat.zero_le _)).mono ?_
  rw [calm_set hs.calm hs.at_.2 (by rw [hs.at_.1]; exact hs.len) bs (by omega) (by omega)]
  exact fun e w' h => h
end Go.Proofs.Ytcdapjfaekamkaa
