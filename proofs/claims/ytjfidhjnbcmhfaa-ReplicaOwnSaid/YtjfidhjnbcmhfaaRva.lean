/- The walk for the statement ReplicaOwn. -/
import Derived.Test.YtjfidhjnbcmhfaaRpx4
namespace Go.Proofs.Ytjfidhjnbcmhfaa
open Go.RowKit
open Go.NB.Crc
open Go.NB (Rd RdU Dk Kp Stp Off Dis val I64 Rw oneB dB rw_new B64 Ent dknown dat)

set_option maxRecDepth 100000 in
set_option maxHeartbeats 8000000 in
theorem law_rown (w : World) (x seg at_ : Int) (a : Option Addr) (n c : Nat) (bs : List UInt8) (hx : (Lit.int .u8 x).wf = true) (hs : (Lit.int .i64 seg).wf = true) (ha : (Lit.int .i64 at_).wf = true) (h : NB.RdB w a n c bs) :
    Calls Try.prog 3 #[.int .u8 x, .int .i64 seg, .int .i64 at_, .slice a n c] w fun e w' => e = .returned (.bool true) ∧ Below w.heap.size w w' := by
  have hbd := Rd.bound h
  have hsz := NB.RdB.size h
  by_cases h60 : 60 < n
  · have h60i : (60 : Int) < (n : Int) := by omega
    go_enter Try.func3, Try.ntmps3
    go_wp2_with (first
      | (go_at_call 8; refine (rawake_any _).mono ?_; rintro e w1 ⟨rfl, hb1⟩))
    go_ret
    exact ⟨rfl, hb1⟩
  have h60i : ¬ (60 : Int) < (n : Int) := by omega
  have hxb := bounds_u8 hx
  obtain ⟨x, rfl⟩ := Int.eq_ofNat_of_zero_le hxb.1
  obtain ⟨k, hk⟩ : ∃ k, x % 3 = k := ⟨_, rfl⟩
  have hk3 : k < 3 := by omega
  have hki : (x : Int) % 3 = (k : Int) := by omega
  have HNEW := Go.Lib.hid (fun w1 hb => qd_new w w1 hb 60 (by omega) (by omega))
  have hcalm := rq_calm (m := 60) (n := 20) (M := 3) (O := k) (by omega) (by omega) (by omega) hk3 (by omega)
  have HC := Go.Lib.hid hcalm
  have HSZ := Go.Lib.hid hsz
  clear hcalm hx hxb hsz hk
  go_enter Try.func3, Try.ntmps3
  go_wp2_with (first
    | (go_at_call 8; refine (rawake_any _).mono ?_; rintro e w1 ⟨rfl, hb1⟩)
    | (go_at_call 9; refine (HNEW.out _ hb1).mono ?_; rintro e w2 ⟨p, rfl, hD⟩)
    | (go_at_call 10; refine (rq_open 60 20 3 k hD (by omega) (by omega) (by omega) hk3 (by omega) (by omega)).mono ?_; rintro e w3 ⟨r, rfl, hR⟩))
  have h3 : NB.RdB w3 a n c bs := Rd.below h (rq_low hR)
  have hst := rq_store hR HC.out (by omega) seg at_ 1 1 (by decide) (by decide) a n c bs h3
  have hbl : bs.length ≤ 1024 := by have := HSZ.out; omega
  have hz := fun i => rp0_l 20 3 k i
  by_cases hbad : seg < 0 ∨ 3 ≤ seg ∨ seg = (k : Int) ∨ at_ < 0
  · rw [show storeM (Dk.fresh 60) (rp0 20 3 k) seg at_ (1, 1, bs) = (Dk.fresh 60, rp0 20 3 k, 1) by unfold storeM; rw [if_neg (fun h => h rfl)]; exact if_pos hbad] at hst
    have HST := Go.Lib.hid hst
    have HZ := Go.Lib.hid hz
    clear hst hz
    go_at_call 11
    refine HST.out.mono ?_
    rintro e w4 ⟨rfl, hR4, _⟩
    replace hR4 : HasRp (fun _ => False) w w4 r p (Dk.fresh 60) (rp0 20 3 k) := hR4
    have HL := Go.Lib.hid (rq_lens hR4 HC.out (by omega) 0 (by omega) (fun h => absurd h (by omega)) (fun i _ _ => HZ.out i))
    simp only
    go_wp2_with fail
    go_at_call 12
    refine HL.out.mono ?_
    rintro e w5 ⟨a5, c5, rfl, hb5, _⟩
    have hB5 := bel (rq_low hR4) hb5 (rq_low hR4).size
    by_cases g1 : seg < 0
    · go_wp2_with fail
      go_ret
      exact ⟨rfl, hB5⟩
    by_cases g2 : 2 < seg
    · go_wp2_with fail
      go_ret
      exact ⟨rfl, hB5⟩
    by_cases g3 : seg = (k : Int)
    · subst g3
      have g3b : ((k : Int) == (k : Int)) = true := by simp
      go_wp2_with fail
      go_ret
      exact ⟨rfl, hB5⟩
    · have g3b : (seg == (k : Int)) = false := by simpa using g3
      have g4 : at_ < 0 := by omega
      go_wp2_with fail
      go_ret
      exact ⟨rfl, hB5⟩
  obtain ⟨i, rfl⟩ := Int.eq_ofNat_of_zero_le (show 0 ≤ seg by omega)
  obtain ⟨j, rfl⟩ := Int.eq_ofNat_of_zero_le (show 0 ≤ at_ by omega)
  have hi3 : i < 3 := by omega
  have hik : i ≠ k := by omega
  have g1 : ¬ (i : Int) < 0 := by omega
  have g2 : ¬ (2 : Int) < (i : Int) := by omega
  have g3b : ((i : Int) == (k : Int)) = false := by simp; omega
  have g4 : ¬ (j : Int) < 0 := by omega
  by_cases hj : 0 < j
  · have g5 : (0 : Int) < (j : Int) := by omega
    rw [calm_store_later HC.out (i := i) (j := j) hi3 hik (x := (1, 1, bs)) (show B64 1 by decide) (show B64 1 by decide) hbl (by rw [hz]; exact hj)] at hst
    have HST := Go.Lib.hid hst
    have HZ := Go.Lib.hid hz
    clear hst hz hik hi3
    go_at_call 11
    refine HST.out.mono ?_
    rintro e w4 ⟨rfl, hR4, _⟩
    replace hR4 : HasRp (fun _ => False) w w4 r p (Dk.fresh 60) (rp0 20 3 k) := hR4
    have HL := Go.Lib.hid (rq_lens hR4 HC.out (by omega) 0 (by omega) (fun h => absurd h (by omega)) (fun i _ _ => HZ.out i))
    simp only
    go_wp2_with fail
    go_at_call 12
    refine HL.out.mono ?_
    rintro e w5 ⟨a5, c5, rfl, hb5, _⟩
    have hB5 := bel (rq_low hR4) hb5 (rq_low hR4).size
    go_wp2_with fail
    go_ret
    exact ⟨rfl, hB5⟩
  obtain rfl : j = 0 := by omega
  have hu : ((rp0 20 3 k).seg i).used = 0 := rp0_used 20 3 k i
  have hpb := put_byt (x := (1, 1, bs)) (show B64 1 by decide) (show B64 1 by decide) hbl
  obtain ⟨D', hs1, hc1⟩ := calm_store_new HC.out (i := i) hi3 hik (x := (1, 1, bs)) (show B64 1 by decide) (show B64 1 by decide) hbl (by rw [hu]; have h1 := hpb.2.1; have h2 := HSZ.out; have h3 : (1, 1, bs).2.2.length = n := h2; unfold needM; omega)
  rw [hz] at hs1
  have hs1' : storeM (Dk.fresh 60) (rp0 20 3 k) (i : Int) (((0 : Nat) : Int)) (1, 1, bs) = (D', (rp0 20 3 k).more i (bytE (1, 1, bs)), 0) := hs1
  rw [hs1'] at hst
  obtain ⟨R1, hR1⟩ : ∃ R1, (rp0 20 3 k).more i (bytE (1, 1, bs)) = R1 := ⟨_, rfl⟩
  have hsg : ∀ j, (R1.seg j).l = if j = i then [bytE (1, 1, bs)] else [] := fun j => by
    rw [← hR1, more_seg (by unfold rp0; simp; omega), hz, hz]
    split <;> rfl
  have hm1 : R1.many = 3 := by rw [← hR1]; rfl
  rw [hR1] at hst hc1
  have hrd : rreadM R1 (i : Int) (0 : Int) = ((1, 1, bs), 0) := by
    have h1 := calm_read hc1 (i := i) (j := 0) (by omega) (by rw [hsg, if_pos rfl]; exact Nat.one_pos)
    rw [hsg, if_pos rfl] at h1
    exact h1.trans hpb.2.2
  have HST := Go.Lib.hid hst
  have HC1 := Go.Lib.hid hc1
  have HSG := Go.Lib.hid hsg
  have HRD := Go.Lib.hid hrd
  have HM1 := Go.Lib.hid hm1
  clear hst hz hs1 hs1' hc1 hsg hrd hR1 hpb hu hm1
  go_at_call 11
  refine HST.out.mono ?_
  rintro e w4 ⟨rfl, hR4, _⟩
  replace hR4 : HasRp (fun _ => False) w w4 r p D' R1 := hR4
  have HL := Go.Lib.hid (rq_lens hR4 HC1.out (by omega) (i + 1) (by rw [HM1.out]; omega) (fun _ => by rw [Nat.add_sub_cancel, HSG.out, if_pos rfl]; exact List.cons_ne_nil _ _) (fun j hj _ => by rw [HSG.out, if_neg (by omega)]))
  simp only
  go_wp2_with fail
  go_at_call 12
  refine HL.out.mono ?_
  rintro e w5 ⟨a5, c5, rfl, hb5, hl5⟩
  obtain ⟨b5, o5, rfl, hc5⟩ := hl5 (by omega)
  have q5 := hc5 i (by omega)
  rw [HSG.out, if_pos rfl] at q5
  replace q5 : w5.cell? ⟨b5, o5 + i, none⟩ = some (.int .u64 1) := q5
  have hR5 := hR4.below hb5
  have hrr := rq_read hR5 HC1.out (i : Int) 0
  rw [HRD.out] at hrr
  have HRR := Go.Lib.hid hrr
  clear hrr hc5 hl5
  go_wp2_with fail
  go_at_call 13
  refine HRR.out.mono ?_
  rintro e w6 ⟨a6, n6, c6, rfl, hr6, hb6⟩
  have q6 := (Below.cell hb6 (World.block_lt_of_cell? _ _ q5)).trans q5
  have h6 : NB.RdB w6 a n c bs := Rd.below h (rq_low (hR5.below hb6))
  have hr6' : NB.RdB w6 a6 n6 c6 bs := hr6
  obtain rfl : n6 = n := (NB.RdB.size hr6').symm.trans HSZ.out
  have ob := oneB w6 (.cells #[.int .u64 1, .int .u64 1, .slice a6 n6 c6] 34)
  have RY : Rw (w6.alloc (.cells #[.int .u64 1, .int .u64 1, .slice a6 n6 c6] 34)) w6.heap.size [.int .u64 1, .int .u64 1, .slice a6 n6 c6] 34 := NB.rw_new w6 [.int .u64 1, .int .u64 1, .slice a6 n6 c6] _ rfl
  have y2 := RY.cell 2 _ rfl
  have q7 := (Below.cell ob (World.block_lt_of_cell? _ _ q6)).trans q6
  have h7 := Rd.below h6 ob
  have hr7 := Rd.below hr6' ob
  have hB7 := bel (rq_low (hR5.below hb6)) ob (rq_low (hR5.below hb6)).size
  have hsb : ((n6 : Int)) = (n6 : Int) := rfl
  clear hr6 q5 q6 HL HRR HST RY h6 hr6' hb6 hR5 hR4 hb5
  simp only
  go_wp2_with (first
    | (refine NB.wpList_conv_str rfl 22 9 (.tmp 107) rfl Try.underlying22 Try.underlying5 Try.underlying9 a6 n6 c6 bs rfl hr7 ?_)
    | (refine NB.wpList_conv_str rfl 22 9 (.tmp 109) rfl Try.underlying22 Try.underlying5 Try.underlying9 a n6 c bs rfl h7 ?_))
  go_ret
  exact ⟨rfl, hB7⟩
end Go.Proofs.Ytjfidhjnbcmhfaa
