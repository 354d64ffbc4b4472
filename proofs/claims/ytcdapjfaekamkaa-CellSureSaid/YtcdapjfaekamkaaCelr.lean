/- A cell behind a crash, in plain lists: what a torn block tells. No program in sight. -/
import Derived.Test.YtcdapjfaekamkaaCelq
namespace Go.Proofs.Ytcdapjfaekamkaa
open Go.RowKit
open Go.NB (Rd Dk Kp Stp Off Dis val Ce footC)

/-- A block whose stamps are below 256. -/
structure Z7 (B : List UInt8) : Prop where
  len : B.length = 64
  hd : B.take 7 = zs 7
  tl : (B.drop 56).take 7 = zs 7
theorem stamp_small (T : Nat) (h : T < 256) : (stamp8 T).take 7 = zs 7 := by
  have e : ∀ k, T / 256 ^ (k + 1) % 256 = 0 := fun k => by
    have : T / 256 ^ (k + 1) = 0 := Nat.div_eq_of_lt (Nat.lt_of_lt_of_le h (by rw [Nat.pow_succ]; exact Nat.le_mul_of_pos_left 256 (Nat.pow_pos (by omega))))
    rw [this]
  show [UInt8.ofNat (T / 256 ^ (6 + 1) % 256), UInt8.ofNat (T / 256 ^ (5 + 1) % 256), UInt8.ofNat (T / 256 ^ (4 + 1) % 256), UInt8.ofNat (T / 256 ^ (3 + 1) % 256), UInt8.ofNat (T / 256 ^ (2 + 1) % 256), UInt8.ofNat (T / 256 ^ (1 + 1) % 256), UInt8.ofNat (T / 256 ^ (0 + 1) % 256)] = _
  rw [e 6, e 5, e 4, e 3, e 2, e 1, e 0]
  rfl
theorem take7_of (B : List UInt8) : B.take 7 = (B.take 8).take 7 := by rw [List.take_take]; rfl
theorem z7_laid (T : Nat) (b : List UInt8) (h : b.length ≤ 43) (hT : T < 256) : Z7 (laidL T b) :=
  ⟨laidL_len T b h, by rw [take7_of, laidL_take8, stamp_small T hT], by rw [laidL_drop56 T b h, stamp_small T hT]⟩
theorem z7_zero : Z7 (List.replicate 64 0) := ⟨by simp, by decide, by decide⟩

def tornL (L old : List UInt8) (n : Nat) : List UInt8 := L.take n ++ old.drop n
theorem torn_small {L old : List UInt8} (hL : Z7 L) (ho : Z7 old) (n : Nat) (hn : n ≤ 7) : tornL L old n = old := by
  have e : L.take n = old.take n := by
    have h1 : ∀ B : List UInt8, B.take n = (B.take 7).take n := fun B => by rw [List.take_take, Nat.min_eq_left hn]
    rw [h1 L, h1 old, hL.hd, ho.hd]
  rw [tornL, e, List.take_append_drop]
theorem torn_full {L old : List UInt8} (hL : L.length = 64) (ho : old.length = 64) : tornL L old 64 = L := by
  rw [tornL, List.take_of_length_le (by omega), List.drop_of_length_le (by omega), List.append_nil]
theorem torn_head {L old : List UInt8} (hL : L.length = 64) (n : Nat) (h8 : 8 ≤ n) (hn : n ≤ 64) : (tornL L old n).take 8 = L.take 8 := by
  rw [tornL, List.take_append_of_le_length (by rw [List.length_take]; omega), List.take_take, Nat.min_eq_left h8]
theorem torn_tail {L old : List UInt8} (hL : Z7 L) (ho : Z7 old) (n : Nat) (hn : n < 64) : (tornL L old n).drop 56 = old.drop 56 := by
  have hl := hL.len
  have hll : (L.take n).length = n := by rw [List.length_take]; omega
  by_cases h : n ≤ 56
  · rw [tornL, List.drop_append, List.drop_of_length_le (by omega), List.nil_append, hll, List.drop_drop]
    congr 1
    omega
  · have e1 : (L.take n).drop 56 = (old.drop 56).take (n - 56) := by
      rw [List.drop_take]
      have h1 : ∀ B : List UInt8, B.take (n - 56) = (B.take 7).take (n - 56) := fun B => by rw [List.take_take, Nat.min_eq_left (by omega)]
      rw [h1 (L.drop 56), h1 (old.drop 56), hL.tl, ho.tl]
    have e2 : old.drop n = (old.drop 56).drop (n - 56) := by rw [List.drop_drop]; congr 1; omega
    rw [tornL, List.drop_append_of_le_length (by omega), e1, e2, List.take_append_drop]
theorem torn_len {L old : List UInt8} (hL : L.length = 64) (ho : old.length = 64) (n : Nat) (hn : n ≤ 64) : (tornL L old n).length = 64 := by
  rw [tornL, List.length_append, List.length_take, List.length_drop]; omega
theorem torn_z7 {L old : List UInt8} (hL : Z7 L) (ho : Z7 old) (n : Nat) (h8 : 8 ≤ n) (hn : n < 64) : Z7 (tornL L old n) :=
  ⟨torn_len hL.len ho.len n (by omega), by rw [take7_of, torn_head hL.len n h8 (by omega), ← take7_of, hL.hd], by rw [torn_tail hL ho n hn, ho.tl]⟩
theorem torn_whole {L old : List UInt8} (hL : Z7 L) (ho : Z7 old) (n : Nat) (h8 : 8 ≤ n) (hn : n < 64) (hlt : num8 (old.drop 56) < num8 L) : wholeL (tornL L old n) = false := by
  cases h : wholeL (tornL L old n)
  · rfl
  · exfalso
    simp only [wholeL, Bool.and_eq_true, beq_iff_eq] at h
    have h1 := h.1.1.1
    have e1 : num8 (tornL L old n) = num8 L := by rw [num8, torn_head hL.len n h8 (by omega)]; rfl
    have e2 : num8 ((tornL L old n).drop 56) = num8 (old.drop 56) := by rw [torn_tail hL ho n hn]
    have e3 : num8 ((tornL L old n).drop 56) = num8 (tornL L old n) := by
      rw [← h1, num8, List.take_take]; rfl
    omega

/-- What is told behind a crash: the new one, or the old one with a greater top at most. -/
structure Told (c x : Ce) (T : Nat) (b : List UInt8) (ok : Prop) : Prop where
  what : (x.b = b ∧ x.turn = T ∧ x.top = T) ∨ (¬ ok ∧ x.b = c.b ∧ x.turn = c.turn ∧ x.top ≤ T ∧ c.top ≤ x.top)
/-- Two blocks with a torn one. -/
theorem open_torn (l : List (List UInt8)) (h2 : l.length = 2) (hz : ∀ j, j < 2 → Z7 (l.getD j [])) (b : List UInt8) (hb : b.length ≤ 43) (hT : (openL 0 l).top + 1 < 256) (n : Nat) (hn : n ≤ 64) :
    (∀ j, j < 2 → Z7 ((l.set (toC (openL 0 l)) (tornL (laidL ((openL 0 l).top + 1) b) (l.getD (toC (openL 0 l)) []) n)).getD j [])) ∧
    Told (openL 0 l) (openL 0 (l.set (toC (openL 0 l)) (tornL (laidL ((openL 0 l).top + 1) b) (l.getD (toC (openL 0 l)) []) n))) ((openL 0 l).top + 1) b False := by
  have hto := toC_le (openL 0 l)
  have hcl := z7_laid ((openL 0 l).top + 1) b hb hT
  have htells := tells_laid ((openL 0 l).top + 1) b hb (by omega) (by omega)
  have hzo := hz (toC (openL 0 l)) (by omega)
  have hset : ∀ M : List UInt8, Z7 M → ∀ j, j < 2 → Z7 ((l.set (toC (openL 0 l)) M).getD j []) := fun M hM j hj => by
    by_cases e : toC (openL 0 l) = j
    · subst e; rw [getD_set_self _ _ (by omega)]; exact hM
    · rw [getD_set_ne _ _ _ e]; exact hz j hj
  have htop := pair_top 0 (l.getD 0 []) (l.getD 1 [])
  have ho2 : openL 0 l = pairC 0 (l.getD 0 []) (l.getD 1 []) := rfl
  rw [← ho2] at htop
  by_cases h7 : n ≤ 7
  · rw [torn_small hcl hzo n h7]
    have e : l.set (toC (openL 0 l)) (l.getD (toC (openL 0 l)) []) = l := by
      have hlt : toC (openL 0 l) < l.length := by omega
      rw [List.getD_eq_getElem?_getD, List.getElem?_eq_getElem hlt]
      exact List.set_getElem_self hlt
    rw [e]
    exact ⟨hz, ⟨.inr ⟨fun h => h, rfl, rfl, by omega, Nat.le_refl _⟩⟩⟩
  by_cases h64 : n = 64
  · subst h64
    rw [torn_full hcl.len hzo.len]
    refine ⟨hset _ hcl, ⟨.inl ?_⟩⟩
    by_cases h0 : (openL 0 l).now = 0
    · have e : toC (openL 0 l) = 0 + 1 := if_pos h0
      rw [e, openL_set1 0 l (by omega), pair_set1 0 _ (l.getD 1 []) htells]
      exact ⟨rfl, rfl, rfl⟩
    · have e : toC (openL 0 l) = 0 + 0 := if_neg h0
      rw [e, openL_set0 0 l (by omega), pair_set0 0 (l.getD 0 []) _ htells]
      exact ⟨rfl, rfl, rfl⟩
  · have hmid := torn_z7 hcl hzo n (by omega) (by omega)
    refine ⟨hset _ hmid, ⟨.inr ?_⟩⟩
    have htl : num8 ((l.getD (toC (openL 0 l)) []).drop 56) ≤ (openL 0 l).top := by
      have : toC (openL 0 l) = 0 ∨ toC (openL 0 l) = 1 := by omega
      rcases this with h | h <;> rw [h, htop] <;> omega
    have hw := torn_whole hcl hzo n (by omega) (by omega) (by rw [htells.hd]; omega)
    have e1 : num8 (tornL (laidL ((openL 0 l).top + 1) b) (l.getD (toC (openL 0 l)) []) n) = (openL 0 l).top + 1 := by
      rw [num8, torn_head hcl.len n (by omega) (by omega)]; exact htells.hd
    have e2 : num8 ((tornL (laidL ((openL 0 l).top + 1) b) (l.getD (toC (openL 0 l)) []) n).drop 56) ≤ (openL 0 l).top + 1 := by
      rw [torn_tail hcl hzo n (by omega)]; omega
    generalize tornL (laidL ((openL 0 l).top + 1) b) (l.getD (toC (openL 0 l)) []) n = M at *
    by_cases h0 : (openL 0 l).now = 0
    · have e : toC (openL 0 l) = 0 + 1 := if_pos h0
      rw [e, openL_set1 0 l (by omega), pair_torn1 0 _ (l.getD 1 []) h0 hw e1 e2 (by rw [← ho2]; omega)]
      exact ⟨fun h => h, rfl, rfl, Nat.le_refl _, by simp only; omega⟩
    · have e : toC (openL 0 l) = 0 + 0 := if_neg h0
      rw [e, openL_set0 0 l (by omega), pair_torn0 0 (l.getD 0 []) _ h0 hw e1 e2 (by rw [← ho2]; omega)]
      exact ⟨fun h => h, rfl, rfl, Nat.le_refl _, by simp only; omega⟩

/-- One round: the disk is told to stop, the cell is set, the disk crashes, the cell is opened. -/
theorem sure_round {D : Dk} (hc : Calm D) (h2 : D.l.length = 2) (hz : ∀ j, j < 2 → Z7 (D.l.getD j [])) (b : List UInt8) (hb : b.length ≤ 43) (hT : (openL 0 D.l).top + 1 < 256) (s : Nat) :
    ∃ f c1 D2, (openL 0 D.l).set (D.stop (s : Int)) laidL b = ((c1, D2), f) ∧ (f = 0 ∨ f = 20) ∧ D2.waits.length ≤ 1 ∧ (f = 0 → c1.b = b ∧ c1.turn = (openL 0 D.l).top + 1) ∧ (f ≠ 0 → c1.b = (openL 0 D.l).b) ∧
      ∀ pick, Calm (D2.crash pick) ∧ (D2.crash pick).l.length = 2 ∧ (∀ j, j < 2 → Z7 ((D2.crash pick).l.getD j [])) ∧ Told (openL 0 D.l) (openL 0 (D2.crash pick).l) ((openL 0 D.l).top + 1) b (f = 0) := by
  have hat := pair_at 0 (D.l.getD 0 []) (D.l.getD 1 [])
  have hto := toC_le (openL 0 D.l)
  have hcl := z7_laid ((openL 0 D.l).top + 1) b hb hT
  obtain ⟨l, waits, left, down⟩ := D
  obtain ⟨k1, k2, k3⟩ := hc
  simp only at k1 k2 k3 h2 hz hT hat hto hcl ⊢
  subst k1 k2 k3
  have e0 : openL 0 l = pairC 0 (l.getD 0 []) (l.getD 1 []) := rfl
  have hall := fun n hn => open_torn l h2 hz b hb hT n hn
  rw [← e0] at hat
  have hstop : (⟨l, [], -1, false⟩ : Dk).stop (s : Int) = ⟨l, [], (s : Int), false⟩ := by
    simp only [Dk.stop, Dk.mk.injEq, true_and, and_true]; omega
  rw [hstop]
  have h43 : ¬ 43 < b.length := by omega
  have htt : ¬ (openL 0 l).top + 1 = 18446744073709551616 := by omega
  have hr : ¬ (((toC (openL 0 l) : Nat) : Int) < 0 ∨ (l.length : Int) ≤ ((toC (openL 0 l) : Nat) : Int)) := by omega
  have hset : (openL 0 l).set ⟨l, [], (s : Int), false⟩ laidL b = (let r := (⟨l, [], (s : Int), false⟩ : Dk).write ((toC (openL 0 l) : Nat) : Int) (laidL ((openL 0 l).top + 1) b)
      if r.2 ≠ 0 then (({ openL 0 l with e := r.2 }, r.1), r.2)
      else
        let t := r.1.sync
        if t.2 ≠ 0 then (({ openL 0 l with e := t.2 }, t.1), t.2)
        else ((nextC (openL 0 l) b, t.1), 0)) := by
    have hT2 : (if (openL 0 l).now = 0 then 1 else 0) = toC (openL 0 l) := rfl
    simp only [Ce.set, h43, hat.2, htt, if_false, hT2, hat.1, Nat.zero_add, ne_eq, not_true_eq_false, nextC]
  rw [hset]
  clear hset
  have hlen := hcl.len
  have hall64 := hall 64 (Nat.le_refl _)
  rw [torn_full hcl.len (hz _ (by omega)).len] at hall64
  have hall0 := hall 0 (by omega)
  have e00 : l.set (toC (openL 0 l)) (l.getD (toC (openL 0 l)) []) = l := by
    have hlt : toC (openL 0 l) < l.length := by omega
    rw [List.getD_eq_getElem?_getD, List.getElem?_eq_getElem hlt]
    exact List.set_getElem_self hlt
  rw [torn_small hcl (hz _ (by omega)) 0 (by omega), e00] at hall0
  have hfull : openL 0 (l.set (toC (openL 0 l)) (laidL ((openL 0 l).top + 1) b)) = nextC (openL 0 l) b := by
    have h := (sits_next (n := 0) (c := openL 0 l) (D := ⟨l, [], -1, false⟩) ⟨⟨rfl, rfl, rfl⟩, by simp only; omega, rfl⟩ b hb (by omega)).op
    rw [nextD, hat.1, Nat.zero_add] at h
    exact h.symm
  generalize laidL ((openL 0 l).top + 1) b = L at *
  generalize hcc : openL 0 l = c at *
  have hat0 : (⟨l, [], (s : Int), false⟩ : Dk).at_ ((toC c : Nat) : Int) = 0 := by simp only [Dk.at_, hr, if_false, Bool.false_eq_true]
  have hmono : ∀ {x : Ce} {ok : Prop}, ¬ ok → Told c x (c.top + 1) b False → Told c x (c.top + 1) b ok := fun h ht => ⟨ht.what.imp id fun k => ⟨h, k.2⟩⟩
  by_cases h0 : s = 0
  · subst h0
    have hw : (⟨l, [], ((0 : Nat) : Int), false⟩ : Dk).write ((toC c : Nat) : Int) L = (⟨l, [], 0, true⟩, 20) := by
      simp only [Dk.write, hat0, hlen, if_false, ne_eq, not_true_eq_false]; rfl
    rw [hw]
    exact ⟨20, { c with e := 20 }, _, rfl, .inr rfl, by simp, fun h => absurd h (by decide), fun _ => rfl, fun pick => ⟨⟨rfl, rfl, rfl⟩, h2, by simpa [Dk.crash, Dk.tears] using hz, hmono (by decide) (by simpa [Dk.crash, Dk.tears, hcc] using hall0.2)⟩⟩
  · have hl0 : ¬ (s : Int) = 0 := by omega
    have hw : (⟨l, [], (s : Int), false⟩ : Dk).write ((toC c : Nat) : Int) L = (⟨l, [(toC c, L)], (s : Int) - 1, false⟩, 0) := by
      simp only [Dk.write, hat0, hlen, hl0, if_false, ne_eq, not_true_eq_false, List.nil_append, Int.toNat_natCast, Prod.mk.injEq, Dk.mk.injEq, true_and, and_true]
      omega
    rw [hw]
    by_cases h1 : s = 1
    · subst h1
      have hs : (⟨l, [(toC c, L)], ((1 : Nat) : Int) - 1, false⟩ : Dk).sync = (⟨l, [(toC c, L)], 0, true⟩, 20) := by rfl
      simp only [hs]
      refine ⟨20, { c with e := 20 }, _, rfl, .inr rfl, by simp, fun h => absurd h (by decide), fun _ => rfl, fun pick => ?_⟩
      cases pick with
      | nil => exact ⟨⟨rfl, rfl, rfl⟩, h2, hz, hmono (by decide) (by simpa [Dk.crash, Dk.tears, hcc] using hall0.2)⟩
      | cons y pick =>
        have hn : y.toNat % 65 ≤ 64 := by omega
        have hh := hall (y.toNat % 65) hn
        have e : ((⟨l, [(toC c, L)], 0, true⟩ : Dk).crash (y :: pick)).l = l.set (toC c) (tornL L (l.getD (toC c) []) (y.toNat % 65)) := by
          cases pick <;> rfl
        refine ⟨⟨rfl, rfl, rfl⟩, by rw [e]; simpa using h2, by rw [e]; exact hh.1, ?_⟩
        rw [e]
        exact hmono (by decide) hh.2
    · have hl1 : ¬ (s : Int) - 1 = 0 := by omega
      have hs : (⟨l, [(toC c, L)], (s : Int) - 1, false⟩ : Dk).sync = (⟨l.set (toC c) L, [], max ((s : Int) - 1 - 1) (-1), false⟩, 0) := by
        simp only [Dk.sync, hl1, if_false, Bool.false_eq_true]; rfl
      simp only [hs, ne_eq, not_true_eq_false, if_false]
      refine ⟨0, nextC c b, _, rfl, .inl rfl, by simp, fun _ => ⟨rfl, rfl⟩, fun h => absurd rfl h, fun pick => ?_⟩
      have e : ((⟨l.set (toC c) L, [], max ((s : Int) - 1 - 1) (-1), false⟩ : Dk).crash pick).l = l.set (toC c) L := by cases pick <;> rfl
      refine ⟨⟨rfl, rfl, rfl⟩, by rw [e]; simpa using h2, by rw [e]; exact hall64.1, ?_⟩
      rw [e]
      rw [hfull]
      exact ⟨.inl ⟨rfl, rfl, rfl⟩⟩
end Go.Proofs.Ytcdapjfaekamkaa
