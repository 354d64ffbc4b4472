/- The walk for the statement SegmentAgain. -/
import Derived.Test.YtmgkaoenjnnlmaaSgw
import Derived.Test.YtmgkaoenjnnlmaaSgx
namespace Go.Proofs.Ytmgkaoenjnnlmaa
open Go.RowKit
open Go.NB (Rd Dk Kp Stp Off Dis val oneB dB I64)

theorem AgI.mono {l : List (List UInt8)} {i k k' : Nat} {D : Dk} {S : Sg} (h : AgI l i k D S) (hk : k ≤ k') : AgI l i k' D S := { h with ep := Nat.le_trans h.ep hk }
theorem ag_small {l : List (List UInt8)} {i k : Nat} {D : Dk} {S : Sg} (h : AgI l i k D S) : ∀ b ∈ S.l, b.length ≤ 100000 := fun b hb => by
  obtain ⟨recs, W, hs⟩ := h.sys
  exact hs.short b hb

set_option maxRecDepth 100000 in
set_option maxHeartbeats 4000000 in
theorem law_again (w : World) (a : Option Addr) (n c0 : Nat) (l : List (List UInt8)) (a1 : Option Addr) (n1 c1 : Nat) (sy : List UInt8) (h : NB.RdBB w a n c0 l) (h1 : NB.RdB w a1 n1 c1 sy) :
    Calls Try.prog 4 #[.slice a n c0, .slice a1 n1 c1] w fun e w' => e = .returned (.bool true) ∧ Below w.heap.size w w' := by
  have hbd := NB.RdBB.bound h
  have hbd1 := Rd.bound h1
  have hln := h.len
  have hsy := NB.RdB.size h1
  by_cases h12 : 12 < n
  · have h12i : (12 : Int) < (n : Int) := by omega
    go_enter Try.func4, Try.ntmps4
    go_wp2_with (first
      | (go_at_call 9; refine (awake_any _).mono ?_; rintro e w1 ⟨rfl, hb1⟩))
    go_ret
    exact ⟨rfl, hb1⟩
  have h12i : ¬ (12 : Int) < (n : Int) := by omega
  by_cases hlt : n1 < n
  · have hlti : (n1 : Int) < (n : Int) := by omega
    go_enter Try.func4, Try.ntmps4
    go_wp2_with (first
      | (go_at_call 9; refine (awake_any _).mono ?_; rintro e w1 ⟨rfl, hb1⟩))
    go_ret
    exact ⟨rfl, hb1⟩
  have hlti : ¬ (n1 : Int) < (n : Int) := by omega
  obtain ⟨hop, hI⟩ := ag_begin l
  obtain ⟨D0, hD0⟩ : ∃ D0, Dk.fresh 100 = D0 := ⟨_, rfl⟩
  have hnew := fun w1 hb => qd_new w w1 hb 100 (by omega) (by omega)
  unfold NewDd at hnew
  rw [hD0] at hop hI hnew
  obtain ⟨S0, hS0⟩ : ∃ S0, openS D0 0 100 = S0 := ⟨_, rfl⟩
  rw [hS0] at hI
  have HI := Go.Lib.hid hI
  have HOP := Go.Lib.hid hop
  have HNEW := Go.Lib.hid hnew
  have HS0 := Go.Lib.hid hS0
  have HLN := Go.Lib.hid hln
  have hw0 := hI.waits
  have i0 : I64 0 := i64_nat (k := 0) (by omega)
  have i100 : I64 100 := i64_nat (k := 100) (by omega)
  have h12l : l.length ≤ 12 := by omega
  clear hI hop hnew hS0 hD0 hln
  go_enter Try.func4, Try.ntmps4
  go_wp2_with (first
    | (go_at_call 9; refine (awake_any _).mono ?_; rintro e w1 ⟨rfl, hb1⟩)
    | (go_at_call 10; refine (HNEW.out _ hb1).mono ?_; rintro e w2 ⟨p, rfl, hD⟩))
  go_at_call 11
  refine (qs_open w _ p D0 0 100 hD (by omega) i0 i100).mono ?_
  rintro e w3 (⟨hbad, _⟩ | ⟨_, q, rfl, hS⟩)
  · exact absurd HOP.out hbad
  rw [HS0.out] at hS
  clear hD
  go_wp2_with fail
  go_loopw [8, 9, 10] (fun x y i wr => ∃ (m q : Nat) (D : Dk) (S : Sg), m ≤ n ∧ x = .pointer (some ⟨q, 0, none⟩) ∧ y = .int .i64 0 ∧ i = .int .i64 m ∧ Sd w wr q p D S ∧ AgI l m (m + 1) D S) (fun _ _ i _ => n - (intOf i).toNat)
  case atStart => exact ⟨0, q, D0, S0, by omega, rfl, rfl, rfl, hS, HI.out⟩
  case round =>
    clear hS HI HS0 HOP hw0
    obtain ⟨m, q, D, S, hm, rfl, rfl, rfl, hS, hI⟩ := hrel
    have hlow := hS.low
    have hwt := hI.waits
    have HI := Go.Lib.hid hI
    clear hI
    by_cases hmn : m < n
    · obtain ⟨b3, o3, rfl, hc3⟩ := NB.RdBB.pos h (by omega)
      obtain ⟨ai, ni, ci, q3w, hri0⟩ := hc3 m hmn
      obtain ⟨b4, o4, rfl, hc4⟩ := NB.RdB.at h1 (by omega)
      have q4w := hc4 m (by omega)
      clear hc3 hc4
      obtain ⟨t, ht⟩ : ∃ t, l.getD m [] = t := ⟨_, rfl⟩
      rw [ht] at hri0
      obtain ⟨yb, hyb⟩ : ∃ yb, sy.getD m 0 = yb := ⟨_, rfl⟩
      rw [hyb] at q4w
      have HT := Go.Lib.hid ht
      clear ht hyb
      have hti := NB.RdB.size hri0
      have hki : (m : Int) < (n : Int) := by omega
      have q3r := (Below.cell hlow (World.block_lt_of_cell? _ _ q3w)).trans q3w
      by_cases h200 : 200 < ni
      · have h200i : (200 : Int) < (ni : Int) := by omega
        go_wp2_with fail
        go_ret
        exact ⟨rfl, hlow⟩
      have h200i : ¬ (200 : Int) < (ni : Int) := by omega
      obtain ⟨D1, S1, hap, hI1⟩ := ag_app HI.out (by rw [HLN.out]; exact hmn) h12l t HT.out (by omega)
      have hwt1 := hI1.waits
      have HAP := Go.Lib.hid hap
      have HI1 := Go.Lib.hid hI1
      clear hap hI1
      go_wp2_with fail
      go_at_call 12
      refine (qs_app w wr wr q p D S _ _ _ t hS (Below.refl _ _) (offW_old hri0 hlow) (by omega) (by omega)).mono ?_
      rw [HAP.out]
      rintro e w4 ⟨rfl, hS4⟩
      have hlow4 := hS4.low
      have q4r := (Below.cell hlow4 (World.block_lt_of_cell? _ _ q4w)).trans q4w
      clear hS q3r hlow hti
      cases hp : (bits .and .u8 (yb.toNat : Int) 1 == 1)
      case false =>
        go_wp2_with fail
        exact ⟨⟨m + 1, q, D1, S1, by omega, rfl, rfl, by simp, hS4, HI1.out.mono (by omega)⟩, by simp [intOf]; omega⟩
      case true =>
        obtain ⟨D2, S2, S3, g1, g2, g3, g4, g5, g6, g7, g8⟩ := ag_again HI1.out (by omega) (by rw [HLN.out]; omega)
        obtain ⟨fr, hfr⟩ : ∃ fr : Int, (S2.n : Int) - (S2.used : Int) = fr := ⟨_, rfl⟩
        have hfr3 : (S3.n : Int) - (S3.used : Int) = fr := by rw [g6, g7]; exact hfr
        have hw4 := g4.waits
        have G1 := Go.Lib.hid g1
        have G2 := Go.Lib.hid g2
        have G3 := Go.Lib.hid g3
        have G4 := Go.Lib.hid g4
        have G8 := Go.Lib.hid g8
        have HFR := Go.Lib.hid hfr
        have HFR3 := Go.Lib.hid hfr3
        clear g1 g2 g3 g4 g5 g6 g7 g8 hfr hfr3
        go_wp2_with fail
        go_at_call 13
        refine (qs_sync w _ q p D1 S1 hS4 (by omega)).mono ?_
        rw [G1.out]
        rintro e w5 ⟨rfl, hS5⟩
        go_wp2_with fail
        go_at_call 18
        refine (qs_free w _ q p D2 S2 hS5).mono ?_
        rw [HFR.out]
        rintro e w6 ⟨rfl, hS6, hb6⟩
        go_wp2_with fail
        go_at_call 11
        refine (qs_open w _ p D2 0 100 hS6.dd (by omega) i0 i100).mono ?_
        rintro e w7 (⟨hbad, _⟩ | ⟨_, q7, rfl, hS7⟩)
        · exact absurd G2.out hbad
        rw [G3.out] at hS7
        clear hS4 hS5 hS6 hb6 q4r hlow4
        go_wp2_with (first
          | (go_at_call 18; refine (qs_free w _ q7 p D2 S3 hS7).mono ?_; rw [HFR3.out]; rintro e w8 ⟨rfl, hS8, hb8⟩)
          | (go_at_call 16; refine (qs_sure w _ q7 p D2 S3 hS8).mono ?_; rw [G8.out]; rintro e w' ⟨rfl, e2⟩; subst w'))
        exact ⟨⟨m + 1, q7, D2, S3, by omega, rfl, rfl, by simp, hS8, G4.out⟩, by simp [intOf]; omega⟩
    · obtain rfl : m = n := by omega
      have hki : ¬ (m : Int) < (m : Int) := by omega
      have hI9 := HI.out
      rw [← HLN.out] at hI9
      have hrd := fun j hj => ag_read hI9 j hj
      have hsm := ag_small hI9
      have hll := hI9.l
      rw [List.take_length] at hll
      have HRD := Go.Lib.hid hrd
      have HSM := Go.Lib.hid hsm
      have HLL := Go.Lib.hid hll
      clear hI9 hrd hsm hll HI
      go_wp2_with fail
      go_loopw [14] (fun i wr => ∃ (j : Nat), j ≤ m ∧ i = .int .i64 j ∧ Sd w wr q p D S) (fun i _ => m - (intOf i).toNat)
      case atStart => exact ⟨0, by omega, rfl, hS⟩
      case round =>
        clear hS hlow
        obtain ⟨j, hj, rfl, hS⟩ := hrel
        by_cases hjm : j < m
        · have hji : (j : Int) < (m : Int) := by omega
          obtain ⟨b3, o3, rfl, hc3⟩ := NB.RdBB.pos h (by omega)
          obtain ⟨ai, ni, ci, q3w, hri0⟩ := hc3 j hjm
          have hr := HRD.out j (by rw [HLN.out]; exact hjm)
          clear hc3
          obtain ⟨t, ht⟩ : ∃ t, l.getD j [] = t := ⟨_, rfl⟩
          rw [ht] at hri0 hr
          have HR := Go.Lib.hid hr
          clear hr ht
          go_wp2_with fail
          go_at_call 17
          refine (qs_read w _ q p D S j hS HSM.out).mono ?_
          rw [HR.out]
          rintro e w5 ⟨ar, cr, rfl, hrr, _, hS5⟩
          replace hrr : NB.RdB w5 ar t.length cr t := hrr
          have q5 := (Below.cell hS5.low (World.block_lt_of_cell? _ _ q3w)).trans q3w
          have hri5 := Rd.below hri0 hS5.low
          clear hS
          go_wp2_with fail
          refine NB.wp_region_m (by kernel_rfl) ?_
          have hr9 := Rd.below hrr (dB w5)
          have q9 := (Below.cell (dB w5) (World.block_lt_of_cell? _ _ q5)).trans q5
          have hri9 := Rd.below hri5 (dB w5)
          have hS9 := hS5.below (dB w5)
          generalize w5.drew = w9 at *
          refine NB.any_p 0 rfl (by kernel_rfl) (fun K hK => ?_); go_simp; refine hK _ ?_; clear hK K
          refine NB.any_p 1 rfl (by kernel_rfl) (fun K hK => ?_); go_simp; refine hK _ ?_; clear hK K
          refine NB.any_p 2 rfl (by kernel_rfl) (fun K hK => ?_); go_simp; refine hK _ ?_; clear hK K
          refine NB.any_p 3 rfl (by kernel_rfl) (fun K hK => ?_); go_simp; refine hK _ ?_; clear hK K
          refine NB.any_r 4 rfl (by kernel_rfl) rfl _ (fun w' hw' => NB.run_op_conv_str Try.underlying23 Try.underlying5 Try.underlying9 rfl rfl (Rd.below (hr9) hw')) (fun K hK => ?_); go_simp; refine hK _ ?_; clear hK K
          refine NB.any_p 5 rfl (by kernel_rfl) (fun K hK => ?_); go_simp; refine hK _ ?_; clear hK K
          refine NB.any_p 6 rfl (by kernel_rfl) (fun K hK => ?_); go_simp; refine hK _ ?_; clear hK K
          refine NB.any_p 7 rfl (by kernel_rfl) (fun K hK => ?_); go_simp; refine hK _ ?_; clear hK K
          refine NB.any_r 8 rfl (by kernel_rfl) rfl _ (fun w' hw' => NB.run_op_load rfl rfl Try.underlying23 rfl (q9) hw') (fun K hK => ?_); go_simp; refine hK _ ?_; clear hK K
          refine NB.any_r 9 rfl (by kernel_rfl) rfl _ (fun w' hw' => NB.run_op_conv_str Try.underlying23 Try.underlying5 Try.underlying9 rfl rfl (Rd.below (hri9) hw')) (fun K hK => ?_); go_simp; refine hK _ ?_; clear hK K
          refine NB.any_p 10 rfl (by kernel_rfl) (fun K hK => ?_); go_simp; refine hK _ ?_; clear hK K
          refine NB.any_p 11 rfl (by kernel_rfl) (fun K hK => ?_); go_simp; refine hK _ ?_; clear hK K
          refine NB.any_end (by kernel_rfl) ?_
          go_wp2_with fail
          exact ⟨⟨j + 1, by omega, by simp, hS9⟩, by simp [intOf]; omega⟩
        · obtain rfl : j = m := by omega
          have hji : ¬ (j : Int) < (j : Int) := by omega
          go_wp2_with (first
            | (go_at_call 15; refine (qs_len w _ q p D S hS).mono ?_; rw [HLL.out, HLN.out]; rintro e w' ⟨rfl, e2⟩; subst w'))
          go_ret
          exact ⟨rfl, hS.low⟩
end Go.Proofs.Ytmgkaoenjnnlmaa
