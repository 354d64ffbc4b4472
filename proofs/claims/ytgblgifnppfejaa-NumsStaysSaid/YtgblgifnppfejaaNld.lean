/- The walk for the statement NumsStays. -/
import Derived.Test.YtgblgifnppfejaaNla
import Derived.Test.YtgblgifnppfejaaNump
namespace Go.Proofs.Ytgblgifnppfejaa
open Go.RowKit
open Go.NB (Rd Kp Stp Off Dis Rr footR val encU encB digs)

theorem raw_left (r : Rr) (n : Int) : (r.raw n).1.b.length ≤ r.b.length := by
  unfold Rr.raw
  split
  · unfold Rr.fail
    split <;> simp
  · exact Rr.take_left r _

set_option maxHeartbeats 2000000 in
theorem law_stays (w : World) (a : Option Addr) (n c : Nat) (b : List UInt8) (a' : Option Addr) (n' c' : Nat) (t : List UInt8) (h : NB.RdB w a n c b) (h' : NB.RdB w a' n' c' t) :
    Calls Try.prog 8 #[.slice a n c, .slice a' n' c'] w fun e w' => e = .returned (.bool true) ∧ Below w.heap.size w w' := by
  have hbd := Rd.bound h
  have hbd' := Rd.bound h'
  have hsz := NB.RdB.size h
  have hsz' := NB.RdB.size h'
  by_cases hn : n ≤ 200
  · have hnz : (n : Int) ≤ 200 := by omega
    by_cases hn' : n' ≤ 40
    · have hnz' : (n' : Int) ≤ 40 := by omega
      go_enter Try.func8, Try.ntmps8
      go_wp2_with (first
        | (go_at_call 9; refine (awake_any _).mono ?_; rintro e w1 ⟨rfl, hb1⟩)
        | (go_at_call 17; refine (rnew_any _ _ _ _ _ (h.below hb1) (by omega)).mono ?_; rintro e w2 ⟨q, F2, rfl, hR2, hb2⟩; have B2 := NB.bel hb1 hb2 hb1.size))
      have hbase := hb1.size
      have hl2 : (⟨b, 0⟩ : Rr).b.length ≤ 200 := by show b.length ≤ 200; omega
      generalize hr0 : (⟨b, 0⟩ : Rr) = r0 at *
      have h00 : r0.e = 0 := by rw [← hr0]
      have H00 := Go.Lib.hid h00; clear hr0 hb2 h00
      go_loopw [7, 8] (fun f i wr => ∃ (k : Nat) (R : Rr) (F : Nat → Prop), k ≤ n' ∧ i = .int .i64 k ∧ f = .int .i64 R.e ∧ HasR wr w1.heap.size q F R ∧ R.b.length ≤ 200 ∧ Below w.heap.size w wr) (fun _ i _ => n' - (intOf i).toNat)
      case atStart => exact ⟨0, r0, F2, by omega, rfl, by rw [H00.out], hR2, hl2, B2⟩
      case round =>
        clear B2 hR2 hl2
        obtain ⟨k, R, F, hk, rfl, rfl, hR, hl, hB⟩ := hrel
        by_cases hlt : k < n'
        · obtain ⟨b3, o3, rfl, hc3⟩ := NB.RdB.at (h'.below (hB.alloc hB.size (.cells #[] 5))) (by omega)
          have q3 := hc3 k hlt
          clear hc3
          generalize t.getD k 0 = y at *
          have hy := y.toNat_lt
          have hki : (k : Int) < (n' : Int) := by omega
          have hR3 := hR.below ((Below.refl _ wr).alloc (Nat.le_refl _) (.cells #[] 5))
          have hB3 := hB.alloc hB.size (.cells #[] 5)
          by_cases hp : (bits .and .u8 (y.toNat : Int) 1 == 0) = true
          · by_cases he : R.e = 0
            · have he' : (R.e != 0) = false := by simp [he]
              clear he
              go_wp2_with (first
                | (go_at_call 18; refine (ruint_any _ _ _ _ _ hR3).mono ?_; rintro e w3 ⟨rfl, F3, hR4, hS4⟩)
                | (go_at_call 24; refine (rerr_any _ _ _ _ _ hR4).mono ?_; rintro e w' ⟨rfl, e2⟩; subst w'))
              go_roundw
              case rel => exact ⟨k + 1, R.uint.1, F3, by omega, by go_num, rfl, hR4, Nat.le_trans (uint_left R) hl, NB.bel hB3 (hR3.low hS4) hbase⟩
              case measure => simp [intOf]; omega
            · have he' : (R.e != 0) = true := by simp [he]
              have hq := Go.Lib.hid (Rr.uint_err he)
              have hr : (R.e != R.e) = false := by simp
              clear he
              go_wp2_with (first
                | (go_at_call 18; refine (ruint_any _ _ _ _ _ hR3).mono ?_; rw [hq.out]; rintro e w3 ⟨rfl, F3, hR4, hS4⟩)
                | (go_at_call 24; refine (rerr_any _ _ _ _ _ hR4).mono ?_; rintro e w' ⟨rfl, e2⟩; subst w'))
              go_roundw
              case rel => exact ⟨k + 1, R, F3, by omega, by go_num, rfl, hR4, hl, NB.bel hB3 (hR3.low hS4) hbase⟩
              case measure => simp [intOf]; omega
          · have hp' : (bits .and .u8 (y.toNat : Int) 1 == 0) = false := by simpa using hp
            clear hp
            have hy4 : (y.toNat : Int) / 16 ≤ 9223372036854775807 := by omega
            have hrl := raw_left R ((y.toNat : Int) / 16)
            by_cases he : R.e = 0
            · have he' : (R.e != 0) = false := by simp [he]
              clear he
              go_wp2_with (first
                | (go_at_call 22; refine (rraw_any _ _ _ _ _ ((y.toNat : Int) / 16) hy4 hR3 (by omega)).mono ?_; rintro e w3 ⟨a4, c4, F3, rfl, ho4, hR4, hS4, hf4⟩)
                | (go_at_call 24; refine (rerr_any _ _ _ _ _ hR4).mono ?_; rintro e w' ⟨rfl, e2⟩; subst w'))
              go_roundw
              case rel => exact ⟨k + 1, (R.raw ((y.toNat : Int) / 16)).1, F3, by omega, by go_num, rfl, hR4, Nat.le_trans hrl hl, NB.bel hB3 (hR3.low hS4) hbase⟩
              case measure => simp [intOf]; omega
            · have he' : (R.e != 0) = true := by simp [he]
              have hq := Go.Lib.hid (Rr.raw_err he ((y.toNat : Int) / 16))
              have hr : (R.e != R.e) = false := by simp
              clear he
              go_wp2_with (first
                | (go_at_call 22; refine (rraw_any _ _ _ _ _ ((y.toNat : Int) / 16) hy4 hR3 (by omega)).mono ?_; rw [hq.out]; rintro e w3 ⟨a4, c4, F3, rfl, ho4, hR4, hS4, hf4⟩)
                | (go_at_call 24; refine (rerr_any _ _ _ _ _ hR4).mono ?_; rintro e w' ⟨rfl, e2⟩; subst w'))
              go_roundw
              case rel => exact ⟨k + 1, R, F3, by omega, by go_num, rfl, hR4, hl, NB.bel hB3 (hR3.low hS4) hbase⟩
              case measure => simp [intOf]; omega
        · obtain rfl : k = n' := by omega
          go_wp2_with fail
          go_ret
          exact ⟨rfl, hB⟩
    · have hnz' : ¬ (n' : Int) ≤ 40 := by omega
      go_enter Try.func8, Try.ntmps8
      go_wp2_with (first
          | (go_at_call 9; refine (awake_any _).mono ?_; rintro e w1 ⟨rfl, hb1⟩))
      go_ret
      exact ⟨rfl, hb1⟩
  · have hnz : ¬ (n : Int) ≤ 200 := by omega
    go_enter Try.func8, Try.ntmps8
    go_wp2_with (first
        | (go_at_call 9; refine (awake_any _).mono ?_; rintro e w1 ⟨rfl, hb1⟩))
    go_ret
    exact ⟨rfl, hb1⟩
end Go.Proofs.Ytgblgifnppfejaa
