import Derived.Test.YtjfidhjnbcmhfaaSlc
namespace Go.Proofs.Ytjfidhjnbcmhfaa
open Go.RowKit
open Go.NB (Rd)

theorem u8_ne (x y : UInt8) : (((x.toNat : Int) != (y.toNat : Int))) = !(x == y) := by
  by_cases h : x = y
  · subst h; simp
  · have : x.toNat ≠ y.toNat := fun e => h (UInt8.toNat_inj.1 e)
    have h2 : (x == y) = false := by simpa using h
    rw [h2]; simp; omega

set_option maxHeartbeats 400000 in
theorem equal_any (w : World) (a a2 : Option Addr) (n c n2 c2 : Nat) (bs bs2 : List UInt8) (h : NB.RdB w a n c bs) (h2 : NB.RdB w a2 n2 c2 bs2) :
    Calls Try.prog 28 #[.slice a n c, .slice a2 n2 c2] w fun e w' => e = .returned (.bool (bs == bs2)) ∧ Below w.heap.size w w' := by
  have hs := NB.RdB.size h
  have hs2 := NB.RdB.size h2
  have hb1 := Rd.bound h
  have hb2 := Rd.bound h2
  by_cases hn : n = n2
  · subst hn
    go_enter Try.func28, Try.ntmps28
    go_wp2
    go_loopw [13] (fun i wr => ∃ k : Nat, k ≤ n ∧ i = .int .i64 k ∧ bs.take k = bs2.take k ∧ Below w.heap.size w wr) (fun i _ => n - (intOf i).toNat)
    case atStart => exact ⟨0, by omega, rfl, by simp, Below.refl _ _⟩
    case round =>
      obtain ⟨k, hk, rfl, htk, hbl⟩ := hrel
      have HT := Go.Lib.hid htk; clear htk
      by_cases hkn : k < n
      · obtain ⟨b, o, rfl, hc⟩ := NB.RdB.at (Rd.below h hbl) (by omega)
        obtain ⟨b2, o2, rfl, hc2⟩ := NB.RdB.at (Rd.below h2 hbl) (by omega)
        have c1 := hc k hkn
        have c2' := hc2 k hkn
        clear hc hc2
        have hki : (k : Int) < (n : Int) := by omega
        generalize hx : bs.getD k 0 = x at c1
        generalize hy : bs2.getD k 0 = y at c2'
        have HX := Go.Lib.hid hx; have HY := Go.Lib.hid hy; clear hx hy
        have hne := u8_ne x y
        by_cases hxy : (x == y) = true
        · rw [hxy] at hne
          have HXY := Go.Lib.hid hxy; clear hxy
          go_wp2
          go_quiet (fail)
          go_wp2
          go_roundw
          case rel => exact ⟨k+1, by omega, by go_num, by
            rw [NB.take_getD bs k (by omega), NB.take_getD bs2 k (by omega), HT.out, HX.out, HY.out, (beq_iff_eq.1 HXY.out)], NB.below_drewN hbl _⟩
          case measure => simp [intOf]; omega
        · have hxy' : (x == y) = false := by simpa using hxy
          rw [hxy'] at hne
          have HXY := Go.Lib.hid hxy'; clear hxy hxy'
          go_wp2
          go_quiet (fail)
          go_wp2
          go_ret
          refine ⟨?_, NB.below_drewN hbl _⟩
          have : (bs == bs2) = false := by
            rw [beq_eq_false_iff_ne]
            rintro rfl
            have := beq_eq_false_iff_ne.1 HXY.out
            rw [← HX.out, ← HY.out] at this
            exact this rfl
          rw [this]; rfl
      · obtain rfl : k = n := by omega
        go_wp2
        go_ret
        refine ⟨?_, hbl⟩
        have := HT.out
        rw [List.take_of_length_le (by omega), List.take_of_length_le (by omega)] at this
        rw [this]; simp
  · have hne : (bs == bs2) = false := by
      rw [beq_eq_false_iff_ne]; rintro rfl; omega
    have hni : ((n : Int) != (n2 : Int)) = true := by simp; omega
    go_enter Try.func28, Try.ntmps28
    go_wp2
    go_ret
    exact ⟨by rw [hne]; rfl, Below.refl _ _⟩
end Go.Proofs.Ytjfidhjnbcmhfaa
