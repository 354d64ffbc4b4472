/- The reference on disks, walked: a read. -/
import Derived.Test.YtcdapjfaekamkaaRfb
namespace Go.Proofs.Ytcdapjfaekamkaa
open Go.RowKit
open Go.NB (Rd Dk Kp Stp Off Dis)

theorem one_rw (w : World) (a b c d : Value) (t : TypeId) : Rw (w.alloc (.cells #[a, b, c, d] t)) w.heap.size [a, b, c, d] t := rw_new w [a, b, c, d] t rfl

set_option maxRecDepth 100000 in
set_option maxHeartbeats 2000000 in
theorem rread_any (w : World) (a1 : Option Addr) (n1 c1 : Nat) (a2 : Option Addr) (n2 c2 : Nat) (D : Dk) (i : Int) (h1 : Rd 1 w a1 n1 c1 (strsL D.l)) (h2 : Rd 2 w a2 n2 c2 (wsL D.waits)) (hl : D.l.length ≤ 65536) (hw : D.waits.length ≤ 100000) :
    Calls Try.prog 36 #[rdV a1 n1 c1 a2 n2 c2 D.left D.down, .int .i64 i] w fun e w' => e = .returned (.tuple #[strL (D.read i).1, .int .i64 (D.read i).2]) ∧ Below w.heap.size w w' := by
  obtain rfl : n1 = D.l.length := by have := h1.len; rw [strs_len] at this; omega
  obtain rfl : n2 = D.waits.length := by have := h2.len; rw [ws_len] at this; omega
  have har := fun w => rat_any w a1 D.l.length c1 a2 D.waits.length c2 D i rfl
  have hq : D.read i = if D.at_ i ≠ 0 then ([], D.at_ i) else (Dk.see (D.l.getD i.toNat []) D.waits i.toNat, 0) := rfl
  rw [hq]
  clear hq
  have hi0 : D.at_ i = 0 → 0 ≤ i ∧ i < (D.l.length : Int) := NB.at_zero
  obtain ⟨l, waits, left, down⟩ := D
  simp only at *
  have T := one_rw w (.slice a1 l.length c1) (.slice a2 waits.length c2) (.int .i64 left) (.bool down) 49
  have hbd1 := h1.bound
  have hbd2 := h2.bound
  generalize (⟨l, waits, left, down⟩ : Dk).at_ i = A at *
  have HAR := Go.Lib.hid har
  clear har
  by_cases ha : A = 0
  case neg =>
    rw [if_pos ha]
    have hab : (A == 0) = false := by simpa using ha
    clear ha
    unfold strL rdV at *
    go_enter Try.func36, Try.ntmps36
    go_wp2_with fail
    refine (HAR.out _).mono ?_
    rintro e w3 ⟨rfl, hb3⟩
    go_wp2_with fail
    go_ret2
    exact ⟨rfl, bel (oneB w _) hb3 (oneB w _).size⟩
  subst ha
  obtain ⟨hge, hlt⟩ := hi0 rfl
  obtain ⟨N, rfl⟩ := Int.eq_ofNat_of_zero_le hge
  have hN : N < l.length := by omega
  rw [if_neg (by simp), Int.toNat_natCast]
  clear hi0 hge
  have hget := strs_at l N hN
  generalize l.getD N [] = B at *
  have HG := Go.Lib.hid hget
  clear hget
  obtain ⟨R, hR⟩ : ∃ R, Dk.see B waits N = R := ⟨_, rfl⟩
  rw [hR]
  unfold rdV at *
  go_enter Try.func36, Try.ntmps36
  go_wp2_with fail
  refine (HAR.out _).mono ?_
  rintro e w3 ⟨rfl, hb3⟩
  have R3 := T.below hb3
  have B3 := bel (oneB w _) hb3 (oneB w _).size
  have h13 := Rd.below h1 B3
  have h23 := Rd.below h2 B3
  obtain ⟨x0, x1, x2, x3, _, _, _, _⟩ := rw4 R3
  clear T hb3 h1 h2
  go_wp2_with fail
  obtain ⟨b1, o1, rfl, hc1⟩ := Rd.pos h13 (by omega)
  have q1 : w3.cell? ⟨b1, o1 + N, none⟩ = some (.string ⟨B.toArray⟩) := hc1 N _ HG.out
  clear hc1 HG HAR
  have hNi : (N : Int) < (l.length : Int) := by omega
  go_loop [7] (fun x => ∃ (k : Nat) (z : Int), k ≤ waits.length ∧ x = .int .i64 z ∧ z = (k : Int) - 1 ∧ R = Dk.see B (waits.take k) N) (fun x => (intOf x + 1).toNat)
  case atStart => exact ⟨waits.length, (waits.length : Int) - 1, Nat.le_refl _, rfl, rfl, by rw [List.take_length]; exact hR.symm⟩
  case round =>
    obtain ⟨k, z, hk, rfl, hz, hse⟩ := hrel
    clear hR
    by_cases h0 : 0 < k
    · obtain ⟨m, rfl⟩ : ∃ m, k = m + 1 := ⟨k - 1, by omega⟩
      obtain rfl : z = (m : Int) := by omega
      clear hz
      obtain ⟨j, b, hjb⟩ : ∃ j b, waits[m]? = some (j, b) := ⟨_, _, List.getElem?_eq_getElem (by omega)⟩
      rw [see_succ waits B N m j b hjb] at hse
      obtain ⟨b2, o2, rfl, hc2⟩ := Rd.pos h23 (by omega)
      have q2 : w3.cell? ⟨b2, o2 + m * 2, none⟩ = some (.int .i64 (j : Int)) := hc2 _ _ (ws_at waits m _ hjb).1
      have q3 : w3.cell? ⟨b2, o2 + m * 2 + 1, none⟩ = some (.string ⟨b.toArray⟩) := by
        have := hc2 _ _ (ws_at waits m _ hjb).2
        rwa [← Nat.add_assoc] at this
      have hmi : (m : Int) < (waits.length : Int) := by omega
      have HSE := Go.Lib.hid hse
      clear hc2 hjb hse
      by_cases hj : j = N
      · subst hj
        go_wp2_with fail
        go_ret2
        have := HSE.out
        rw [if_pos (by trivial)] at this
        rw [this]
        exact ⟨rfl, B3⟩
      · have hji : ¬ (j : Int) = (N : Int) := by omega
        go_wp2_with fail
        have := HSE.out
        rw [if_neg hj] at this
        exact ⟨⟨m, (m : Int) - 1, by omega, by simp, rfl, this⟩, by simp only [intOf]; omega⟩
    · obtain rfl : k = 0 := by omega
      obtain rfl : z = -1 := by omega
      have HSE := Go.Lib.hid hse
      clear hse hz
      go_wp2_with fail
      have hse := HSE.out
      go_ret2
      rw [hse]
      exact ⟨rfl, B3⟩
end Go.Proofs.Ytcdapjfaekamkaa
