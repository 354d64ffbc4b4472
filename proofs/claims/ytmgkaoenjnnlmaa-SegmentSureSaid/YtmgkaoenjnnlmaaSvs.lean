/- The walk for the statement SegmentSure. -/
import Derived.Test.YtmgkaoenjnnlmaaSvh
import Derived.Test.YtmgkaoenjnnlmaaSvt
import Derived.Test.YtmgkaoenjnnlmaaSgw
import Derived.Test.YtmgkaoenjnnlmaaSgx
namespace Go.Proofs.Ytmgkaoenjnnlmaa
open Go.RowKit
open Go.NB (Rd Dk Kp Stp Off Dis val oneB dB I64)

theorem SuI.mono {all : List (List UInt8)} {s i k k' : Nat} {D : Dk} {S : Sg} (h : SuI all s i k D S) (hk : k ≤ k') : SuI all s i k' D S := { h with ep := Nat.le_trans h.ep hk }

set_option maxRecDepth 100000 in
set_option maxHeartbeats 8000000 in
theorem law_sure (w : World) (a : Option Addr) (n c0 : Nat) (ls : List (List UInt8)) (a1 : Option Addr) (n1 c1 : Nat) (sy : List UInt8) (a2 : Option Addr) (n2 c2 : Nat) (ps : List (List UInt8)) (h : NB.RdBB w a n c0 ls) (h1 : NB.RdB w a1 n1 c1 sy) (h2 : NB.RdBB w a2 n2 c2 ps) :
    Calls Try.prog 3 #[.slice a n c0, .slice a1 n1 c1, .slice a2 n2 c2] w fun e w' => e = .returned (.bool true) ∧ Below w.heap.size w w' := by
  have hbd := NB.RdBB.bound h
  have hbd1 := Rd.bound h1
  have hbd2 := NB.RdBB.bound h2
  by_cases hbad : 16 < n ∨ n1 < n ∨ n2 < n
  · by_cases h16 : 16 < n
    · have h16i : (16 : Int) < (n : Int) := by omega
      go_enter Try.func3, Try.ntmps3
      go_wp2_with (go_at_call 9; refine (awake_any _).mono ?_; rintro e w1 ⟨rfl, hb1⟩)
      go_ret
      exact ⟨rfl, hb1⟩
    have h16i : ¬ (16 : Int) < (n : Int) := by omega
    by_cases hn1 : n1 < n
    · have hn1i : (n1 : Int) < (n : Int) := by omega
      go_enter Try.func3, Try.ntmps3
      go_wp2_with (go_at_call 9; refine (awake_any _).mono ?_; rintro e w1 ⟨rfl, hb1⟩)
      go_ret
      exact ⟨rfl, hb1⟩
    have hn1i : ¬ (n1 : Int) < (n : Int) := by omega
    have hn2i : (n2 : Int) < (n : Int) := by omega
    go_enter Try.func3, Try.ntmps3
    go_wp2_with (go_at_call 9; refine (awake_any _).mono ?_; rintro e w1 ⟨rfl, hb1⟩)
    go_ret
    exact ⟨rfl, hb1⟩
  have h16i : ¬ (16 : Int) < (n : Int) := by omega
  have hn1i : ¬ (n1 : Int) < (n : Int) := by omega
  have hn2i : ¬ (n2 : Int) < (n : Int) := by omega
  have hn16 : n ≤ 16 := by omega
  have hn1 : n ≤ n1 := by omega
  have hn2 : n ≤ n2 := by omega
  clear hbad
  obtain ⟨hop, hI⟩ := su_begin
  obtain ⟨D0, hD0⟩ : ∃ D0, Dk.fresh 120 = D0 := ⟨_, rfl⟩
  have hnew := fun w1 hb => qd_new w w1 hb 120 (by omega) (by omega)
  unfold NewDd at hnew
  rw [hD0] at hop hI hnew
  obtain ⟨S0, hS0⟩ : ∃ S0, openS D0 0 120 = S0 := ⟨_, rfl⟩
  rw [hS0] at hI
  have HI := Go.Lib.hid hI
  have HOP := Go.Lib.hid hop
  have HNEW := Go.Lib.hid hnew
  have HS0 := Go.Lib.hid hS0
  have hw0 := hI.waits
  have i0 : I64 0 := i64_nat (k := 0) (by omega)
  have i120 : I64 120 := i64_nat (k := 120) (by omega)
  clear hI hop hnew hS0 hD0
  go_enter Try.func3, Try.ntmps3
  go_wp2_with (first
    | (go_at_call 9; refine (awake_any _).mono ?_; rintro e w1 ⟨rfl, hb1⟩)
    | (go_at_call 10; refine (HNEW.out _ hb1).mono ?_; rintro e w2 ⟨p, rfl, hD⟩))
  go_at_call 11
  refine (qs_open w _ p D0 0 120 hD (by omega) i0 i120).mono ?_
  rintro e w3 (⟨hbad, _⟩ | ⟨_, q, rfl, hS⟩)
  · exact absurd HOP.out hbad
  rw [HS0.out] at hS
  clear hD
  go_wp2_with fail
  go_loopw [10, 11, 12, 13, 14] (fun x y r z i wr => ∃ (m q N s : Nat) (l : List (List UInt8)) (D : Dk) (S : Sg) (v : Value), m ≤ n ∧ N ≤ m ∧ x = .pointer (some ⟨q, 0, none⟩) ∧ y = .int .i64 0 ∧ r = v ∧ z = .int .i64 s ∧ i = .int .i64 m ∧ s ≤ l.length ∧ l.length = N ∧ SdH (fun k => v.ownBlock = some k) w wr q p D S ∧ RowS wr w.heap.size v N (strsL l) ∧ SuI l s m (m + 1) D S) (fun _ _ _ _ i _ => n - (intOf i).toNat)
  case atStart => exact ⟨0, q, 0, 0, [], D0, S0, .slice none 0 0, by omega, Nat.le_refl _, rfl, rfl, rfl, rfl, rfl, Nat.le_refl _, rfl, hS.sdh.imp (fun k e => by simp [Value.ownBlock] at e), rowS_nil _ _, HI.out⟩
  case round =>
    clear hS HI HS0 HOP hw0
    obtain ⟨m, q, N, s, l, D, S, v, hm, hNm, rfl, rfl, rfl, rfl, rfl, hsl, hN, hS, hR, hI⟩ := hrel
    have hlow := hS.low
    have hwt := hI.waits
    have hbw := hlow.size
    have HI := Go.Lib.hid hI
    have HN := Go.Lib.hid hN
    clear hI
    by_cases hmn : m < n
    · have hmi : (m : Int) < (n : Int) := by omega
      obtain ⟨b3, o3, rfl, hc3⟩ := NB.RdBB.pos h (by omega)
      obtain ⟨ai, ni, ci, q3w, hri0⟩ := hc3 m hmn
      obtain ⟨b4, o4, rfl, hc4⟩ := NB.RdB.at h1 (by omega)
      have q4w := hc4 m (by omega)
      obtain ⟨b5, o5, rfl, hc5⟩ := NB.RdBB.pos h2 (by omega)
      obtain ⟨ap, np, cp, q5w, hrp0⟩ := hc5 m (by omega)
      clear hc3 hc4 hc5
      obtain ⟨t, ht⟩ : ∃ t, ls.getD m [] = t := ⟨_, rfl⟩
      obtain ⟨pk, hpk⟩ : ∃ pk, ps.getD m [] = pk := ⟨_, rfl⟩
      obtain ⟨yb, hyb⟩ : ∃ yb, sy.getD m 0 = yb := ⟨_, rfl⟩
      rw [ht] at hri0
      rw [hpk] at hrp0
      rw [hyb] at q4w
      clear ht hpk hyb
      have hti := NB.RdB.size hri0
      have hpi := NB.RdB.size hrp0
      have hbi := Rd.bound hri0
      have hbp := Rd.bound hrp0
      have q3 := (Below.cell hlow (World.block_lt_of_cell? _ _ q3w)).trans q3w
      have q5 := (Below.cell hlow (World.block_lt_of_cell? _ _ q5w)).trans q5w
      by_cases h150 : 150 < ni
      · have h150i : (150 : Int) < (ni : Int) := by omega
        go_wp2_with fail
        go_ret
        exact ⟨rfl, hlow⟩
      have h150i : ¬ (150 : Int) < (ni : Int) := by omega
      by_cases h30 : 30 < np
      · have h30i : (30 : Int) < (np : Int) := by omega
        go_wp2_with fail
        go_ret
        exact ⟨rfl, hlow⟩
      have h30i : ¬ (30 : Int) < (np : Int) := by omega
      obtain ⟨D1, S1, hap, hI1⟩ := su_app HI.out (by omega) t (by omega)
      rw [hN] at hap
      have hwt1 := hI1.waits
      have HAP := Go.Lib.hid hap
      have HI1 := Go.Lib.hid hI1
      clear hap hI1 hN
      obtain ⟨av, cv, rfl, hrv⟩ := hR.rd
      have hcv : cv ≤ 9223372036854775807 ∧ N ≤ cv := by have h1 := hrv.le; have h2 := hrv.max; unfold maxLen at h2; omega
      clear hrv
      go_wp2_with fail
      go_at_call 12
      refine (qh_app _ w wr wr q p D S _ _ _ t hS (Below.refl _ _) (offW_old hri0 hlow) (by omega) (by omega)).mono ?_
      rw [HAP.out]
      rintro e w4 ⟨rfl, hS4, hk4⟩
      replace hS4 : SdH (fun k => (Value.slice av N cv).ownBlock = some k) w w4 q p D1 S1 := hS4
      have hR4 := hR.keep hk4 (fun k e h => h e)
      have hlow4 := hS4.low
      have q3r := (Below.cell hlow4 (World.block_lt_of_cell? _ _ q3w)).trans q3w
      have q4r := (Below.cell hlow4 (World.block_lt_of_cell? _ _ q4w)).trans q4w
      have hri4 := Rd.below hri0 hlow4
      have hR5 := hR4.below ((Below.refl _ _).alloc (Nat.le_refl _) (.cells #[.string ⟨t.toArray⟩] 9))
      have hS5 := hS4.below ((Below.refl _ _).alloc (Nat.le_refl _) (.cells #[.string ⟨t.toArray⟩] 9))
      have hsz4 := hlow4.size
      have hlv : ∀ k, (Value.slice av N cv).ownBlock = some k → w.heap.size ≤ k := fun k e => (hR5.lt k e).1
      clear hS q3 q5 hlow hk4 hR hS4 hR4
      cases hp1 : (bits .and .u8 (yb.toNat : Int) 3 == 1)
      case false =>
        cases hp2 : (bits .and .u8 (yb.toNat : Int) 12 == 4)
        case false =>
          go_wp2_with (first
            | (refine NB.wpList_conv_str rfl 23 9 (.tmp 92) rfl Try.underlying23 Try.underlying5 Try.underlying9 ai ni ci t rfl hri4 ?_)
            | (at_builtin; refine wpList_append_s rfl (.tmp 88) (.tmp 94) rfl w.heap.size _ N (strsL l) rfl hR5 _ 1 (strL t) rfl (str_rd w4 t rfl) (str_one t) (by omega) (by simp; omega) ?_; intro v6 w6 hR6 hk6 hv6; have hS6 := hS5.turn (H' := fun k => v6.ownBlock = some k) hk6 (fun k e => ⟨(hR6.lt k e).2, hv6 k e⟩) hlv; have q46 := (Below.cell hS6.low (World.block_lt_of_cell? _ _ q4w)).trans q4w; have q56 := (Below.cell hS6.low (World.block_lt_of_cell? _ _ q5w)).trans q5w))
          obtain ⟨N1, hN1⟩ : ∃ N1, N + 1 = N1 := ⟨_, rfl⟩
          have hcat : strsL l ++ [strL t] = strsL (l ++ [t]) := by simp [strsL]
          rw [hcat, hN1] at hR6
          have hln1 : (l ++ [t]).length = N1 := by rw [List.length_append, HN.out]; exact hN1
          have HN1 := Go.Lib.hid hln1
          have hN1b : N1 ≤ m + 1 := by omega
          have hN1p : 0 < N1 := by omega
          obtain ⟨a6, c6, rfl, hr6⟩ := hR6.rd
          have hc6 : c6 ≤ 9223372036854775807 ∧ N1 ≤ c6 := by have h1 := hr6.le; have h2 := hr6.max; unfold maxLen at h2; omega
          have hsN : s ≤ N1 := by have := HN.out; omega
          clear hS5 hR5 hcat hln1 hk6 hv6 hr6 hri4 q3r hlow4 hlv hN1
          have HI := HI1
          have hSX := hS6
          have hRX := hR6
          clear HI1 hS6 hR6
          have hI9 : SuI (l ++ [t]) s (m + 1) (m + 1 + 1) D1 S1 := HI.out.mono (by omega)
          clear HI
          have HI := Go.Lib.hid hI9
          have HNN := HN1
          have hS := hSX
          have hR := hRX
          clear hI9 hSX hRX HN1
          have hle := HI.out.le
          have hll := HI.out.l
          have hsu := HI.out.sure
          have hrd := fun j hj => su_read HI.out j hj
          have hsm : ∀ b ∈ S1.l, b.length ≤ 100000 := fun b hb => by rw [HI.out.l] at hb; have := HI.out.small b hb; omega
          have hl9 : S1.l.length = N1 := by rw [hll]; exact HNN.out
          have HRD := Go.Lib.hid hrd
          have HSM := Go.Lib.hid hsm
          have HL9 := Go.Lib.hid hl9
          have HSU := Go.Lib.hid hsu
          clear hrd hsm hll hl9 hsu
          go_wp2_with (first
            | (go_at_call 15; refine (qs_len w _ q p D1 S1 hS.sd).mono ?_; rw [HL9.out]; rintro e w' ⟨rfl, e2⟩; subst w')
            | (go_at_call 16; refine (qs_sure w _ q p D1 S1 hS.sd).mono ?_; rw [HSU.out]; rintro e w' ⟨rfl, e2⟩; subst w'))
          go_loopw [17] (fun i wr => ∃ (j : Nat), j ≤ N1 ∧ i = .int .i64 j ∧ SdH (fun k => (Value.slice a6 N1 c6).ownBlock = some k) w wr q p D1 S1 ∧ RowS wr w.heap.size (.slice a6 N1 c6) N1 (strsL (l ++ [t]))) (fun i _ => N1 - (intOf i).toNat)
          case atStart => exact ⟨0, by omega, rfl, hS, hR⟩
          case round =>
            clear hS hR
            obtain ⟨j, hj, rfl, hS, hR⟩ := hrel
            by_cases hjm : j < N1
            · have hji : (j : Int) < (N1 : Int) := by omega
              obtain ⟨gv, cv', e9, hrv, _⟩ := hR.pos (by omega)
              cases e9
              have hr := HRD.out j (by rw [HNN.out]; exact hjm)
              have hsj := strs_at (l ++ [t]) j (by rw [HNN.out]; exact hjm)
              obtain ⟨t9, ht9⟩ : ∃ t9, (l ++ [t]).getD j [] = t9 := ⟨_, rfl⟩
              rw [ht9] at hr hsj
              have q9w := hrv.cell _ _ rfl j _ hsj
              have HR := Go.Lib.hid hr
              clear hr hsj hrv ht9
              go_wp2_with fail
              go_at_call 17
              refine (qh_read _ w _ q p D1 S1 j hS HSM.out).mono ?_
              rw [HR.out]
              rintro e w5 ⟨ar, cr, rfl, hrr, _, hS5, hb5⟩
              replace hrr : NB.RdB w5 ar t9.length cr t9 := hrr
              have hR5 := hR.below hb5
              have q5 := (Below.cell hb5 (World.block_lt_of_cell? _ _ q9w)).trans q9w
              simp only [strL, Nat.zero_add] at q5
              clear hS hR q9w hb5
              go_wp2_with fail
              refine NB.wp_region_m (by kernel_rfl) ?_
              have hr9 := Rd.below hrr (dB w5)
              have q9 := (Below.cell (dB w5) (World.block_lt_of_cell? _ _ q5)).trans q5
              have hS9 := hS5.below (dB w5)
              have hR9 := hR5.below (dB w5)
              generalize w5.drew = w9 at *
              refine NB.any_p 0 rfl (by kernel_rfl) (fun K hK => ?_); go_simp; refine hK _ ?_; clear hK K
              refine NB.any_p 1 rfl (by kernel_rfl) (fun K hK => ?_); go_simp; refine hK _ ?_; clear hK K
              refine NB.any_p 2 rfl (by kernel_rfl) (fun K hK => ?_); go_simp; refine hK _ ?_; clear hK K
              refine NB.any_p 3 rfl (by kernel_rfl) (fun K hK => ?_); go_simp; refine hK _ ?_; clear hK K
              refine NB.any_r 4 rfl (by kernel_rfl) rfl _ (fun w' hw' => NB.run_op_conv_str Try.underlying23 Try.underlying5 Try.underlying9 rfl rfl (Rd.below (hr9) hw')) (fun K hK => ?_); go_simp; refine hK _ ?_; clear hK K
              refine NB.any_p 5 rfl (by kernel_rfl) (fun K hK => ?_); go_simp; refine hK _ ?_; clear hK K
              refine NB.any_p 6 rfl (by kernel_rfl) (fun K hK => ?_); go_simp; refine hK _ ?_; clear hK K
              refine NB.any_p 7 rfl (by kernel_rfl) (fun K hK => ?_); go_simp; refine hK _ ?_; clear hK K
              refine NB.any_r 8 rfl (by kernel_rfl) rfl _ (fun w' hw' => NB.run_op_load rfl rfl Try.underlying9 rfl (q9) hw') (fun K hK => ?_); go_simp; refine hK _ ?_; clear hK K
              refine NB.any_p 9 rfl (by kernel_rfl) (fun K hK => ?_); go_simp; refine hK _ ?_; clear hK K
              refine NB.any_p 10 rfl (by kernel_rfl) (fun K hK => ?_); go_simp; refine hK _ ?_; clear hK K
              refine NB.any_end (by kernel_rfl) ?_
              go_wp2_with fail
              exact ⟨⟨j + 1, by omega, by simp, hS9, hR9⟩, by simp [intOf]; omega⟩
            · obtain rfl : N1 = j := by omega
              have hji : ¬ (N1 : Int) < (N1 : Int) := by omega
              go_wp2_with fail
              exact ⟨⟨m + 1, q, N1, s, (l ++ [t]), D1, S1, _, by omega, by omega, rfl, rfl, rfl, rfl, by simp, hle, HNN.out, hS, hR, HI.out⟩, by simp [intOf]; omega⟩
        case true =>
          go_wp2_with (first
            | (refine NB.wpList_conv_str rfl 23 9 (.tmp 92) rfl Try.underlying23 Try.underlying5 Try.underlying9 ai ni ci t rfl hri4 ?_)
            | (at_builtin; refine wpList_append_s rfl (.tmp 88) (.tmp 94) rfl w.heap.size _ N (strsL l) rfl hR5 _ 1 (strL t) rfl (str_rd w4 t rfl) (str_one t) (by omega) (by simp; omega) ?_; intro v6 w6 hR6 hk6 hv6; have hS6 := hS5.turn (H' := fun k => v6.ownBlock = some k) hk6 (fun k e => ⟨(hR6.lt k e).2, hv6 k e⟩) hlv; have q46 := (Below.cell hS6.low (World.block_lt_of_cell? _ _ q4w)).trans q4w; have q56 := (Below.cell hS6.low (World.block_lt_of_cell? _ _ q5w)).trans q5w))
          obtain ⟨N1, hN1⟩ : ∃ N1, N + 1 = N1 := ⟨_, rfl⟩
          have hcat : strsL l ++ [strL t] = strsL (l ++ [t]) := by simp [strsL]
          rw [hcat, hN1] at hR6
          have hln1 : (l ++ [t]).length = N1 := by rw [List.length_append, HN.out]; exact hN1
          have HN1 := Go.Lib.hid hln1
          have hN1b : N1 ≤ m + 1 := by omega
          have hN1p : 0 < N1 := by omega
          obtain ⟨a6, c6, rfl, hr6⟩ := hR6.rd
          have hc6 : c6 ≤ 9223372036854775807 ∧ N1 ≤ c6 := by have h1 := hr6.le; have h2 := hr6.max; unfold maxLen at h2; omega
          have hsN : s ≤ N1 := by have := HN.out; omega
          clear hS5 hR5 hcat hln1 hk6 hv6 hr6 hri4 q3r hlow4 hlv hN1
          have HI := HI1
          have hSX := hS6
          have hRX := hR6
          clear HI1 hS6 hR6
          obtain ⟨j9, S4, hj1, hj2, o1, o2, hI4⟩ := su_crash HI.out (by omega) pk
          have hwt4 := hI4.waits
          obtain ⟨D4, hD4⟩ : ∃ D4, D1.crash pk = D4 := ⟨_, rfl⟩
          rw [hD4] at o1 o2 hI4 hwt4
          have hl4 := hI4.l
          have hl5 : S4.l.length = j9 := by rw [hl4, List.length_take]; omega
          have hN5 : ((l ++ [t]).take j9).length = j9 := by rw [List.length_take]; omega
          have hj3 : j9 ≤ N1 := by rw [← HN1.out]; exact hj2
          have hI5 : SuI ((l ++ [t]).take j9) j9 (m + 1) (m + 1 + 1) D4 S4 := hI4
          clear HI
          have HI := Go.Lib.hid hI5
          have HNN := Go.Lib.hid hN5
          have HD4 := Go.Lib.hid hD4
          have O1 := Go.Lib.hid o1
          have O2 := Go.Lib.hid o2
          have HL5 := Go.Lib.hid hl5
          clear hI4 hI5 hD4 o1 o2 hl4 hl5 hN5 hj2
          go_at_call 14
          refine (qg_crash _ w _ _ p D1 _ _ _ pk hSX.ddh (Below.refl _ _) (offW_old hrp0 hSX.low) (by omega)).mono ?_
          rw [HD4.out]
          rintro e w7 ⟨rfl, hS7, hk7⟩
          have hR7 := hRX.keep hk7 (fun k e h => h e)
          clear hSX hRX hk7
          go_wp2_with fail
          go_at_call 11
          refine (qg_open _ w _ p D4 0 120 hS7 (by omega) i0 i120).mono ?_
          rintro e w8 (⟨hbad, _⟩ | ⟨_, q8, rfl, hS8, hb8⟩)
          · exact absurd O1.out hbad
          rw [O2.out] at hS8
          have hR8 := hR7.below hb8
          obtain ⟨gv, cv', e9, hrv, hgb, hgl⟩ := hR8.pos (by omega)
          cases e9
          have hR := rowS_cut hrv hgb hgl j9 hj3
          have hcut : strsL ((l ++ [t]).take j9) = (strsL (l ++ [t])).take j9 := by simp [strsL]
          rw [← hcut] at hR
          have hS : SdH (fun k => (Value.slice (some ⟨gv, 0, none⟩) j9 j9).ownBlock = some k) w w8 q8 p D4 S4 := hS8
          have hsj : ¬ (j9 : Int) < (s : Int) := by omega
          have hsj2 : ¬ (N1 : Int) < (j9 : Int) := by omega
          have hji1 : (j9 : Int) ≤ (c6 : Int) := by omega
          clear hcut hrv hS7 hR7 hR8 hb8 hgb hgl
          go_wp2_with (first
            | (go_at_call 15; refine (qs_len w _ q8 p D4 S4 hS8.sd).mono ?_; rw [HL5.out]; rintro e w' ⟨rfl, e2⟩; subst w'))
          clear hS8
          have hle := HI.out.le
          have hll := HI.out.l
          have hsu := HI.out.sure
          have hrd := fun j hj => su_read HI.out j hj
          have hsm : ∀ b ∈ S4.l, b.length ≤ 100000 := fun b hb => by rw [HI.out.l] at hb; have := HI.out.small b hb; omega
          have hl9 : S4.l.length = j9 := by rw [hll]; exact HNN.out
          have HRD := Go.Lib.hid hrd
          have HSM := Go.Lib.hid hsm
          have HL9 := Go.Lib.hid hl9
          have HSU := Go.Lib.hid hsu
          clear hrd hsm hll hl9 hsu
          go_wp2_with (first
            | (go_at_call 15; refine (qs_len w _ q8 p D4 S4 hS.sd).mono ?_; rw [HL9.out]; rintro e w' ⟨rfl, e2⟩; subst w')
            | (go_at_call 16; refine (qs_sure w _ q8 p D4 S4 hS.sd).mono ?_; rw [HSU.out]; rintro e w' ⟨rfl, e2⟩; subst w'))
          go_loopw [17] (fun i wr => ∃ (j : Nat), j ≤ j9 ∧ i = .int .i64 j ∧ SdH (fun k => (Value.slice (some ⟨gv, 0, none⟩) j9 j9).ownBlock = some k) w wr q8 p D4 S4 ∧ RowS wr w.heap.size (.slice (some ⟨gv, 0, none⟩) j9 j9) j9 (strsL ((l ++ [t]).take j9))) (fun i _ => j9 - (intOf i).toNat)
          case atStart => exact ⟨0, by omega, rfl, hS, hR⟩
          case round =>
            clear hS hR
            obtain ⟨j, hj, rfl, hS, hR⟩ := hrel
            by_cases hjm : j < j9
            · have hji : (j : Int) < (j9 : Int) := by omega
              obtain ⟨gv, cv', e9, hrv, _⟩ := hR.pos (by omega)
              cases e9
              have hr := HRD.out j (by rw [HNN.out]; exact hjm)
              have hsj := strs_at ((l ++ [t]).take j9) j (by rw [HNN.out]; exact hjm)
              obtain ⟨t9, ht9⟩ : ∃ t9, ((l ++ [t]).take j9).getD j [] = t9 := ⟨_, rfl⟩
              rw [ht9] at hr hsj
              have q9w := hrv.cell _ _ rfl j _ hsj
              have HR := Go.Lib.hid hr
              clear hr hsj hrv ht9
              go_wp2_with fail
              go_at_call 17
              refine (qh_read _ w _ q8 p D4 S4 j hS HSM.out).mono ?_
              rw [HR.out]
              rintro e w5 ⟨ar, cr, rfl, hrr, _, hS5, hb5⟩
              replace hrr : NB.RdB w5 ar t9.length cr t9 := hrr
              have hR5 := hR.below hb5
              have q5 := (Below.cell hb5 (World.block_lt_of_cell? _ _ q9w)).trans q9w
              simp only [strL, Nat.zero_add] at q5
              clear hS hR q9w hb5
              go_wp2_with fail
              refine NB.wp_region_m (by kernel_rfl) ?_
              have hr9 := Rd.below hrr (dB w5)
              have q9 := (Below.cell (dB w5) (World.block_lt_of_cell? _ _ q5)).trans q5
              have hS9 := hS5.below (dB w5)
              have hR9 := hR5.below (dB w5)
              generalize w5.drew = w9 at *
              refine NB.any_p 0 rfl (by kernel_rfl) (fun K hK => ?_); go_simp; refine hK _ ?_; clear hK K
              refine NB.any_p 1 rfl (by kernel_rfl) (fun K hK => ?_); go_simp; refine hK _ ?_; clear hK K
              refine NB.any_p 2 rfl (by kernel_rfl) (fun K hK => ?_); go_simp; refine hK _ ?_; clear hK K
              refine NB.any_p 3 rfl (by kernel_rfl) (fun K hK => ?_); go_simp; refine hK _ ?_; clear hK K
              refine NB.any_r 4 rfl (by kernel_rfl) rfl _ (fun w' hw' => NB.run_op_conv_str Try.underlying23 Try.underlying5 Try.underlying9 rfl rfl (Rd.below (hr9) hw')) (fun K hK => ?_); go_simp; refine hK _ ?_; clear hK K
              refine NB.any_p 5 rfl (by kernel_rfl) (fun K hK => ?_); go_simp; refine hK _ ?_; clear hK K
              refine NB.any_p 6 rfl (by kernel_rfl) (fun K hK => ?_); go_simp; refine hK _ ?_; clear hK K
              refine NB.any_p 7 rfl (by kernel_rfl) (fun K hK => ?_); go_simp; refine hK _ ?_; clear hK K
              refine NB.any_r 8 rfl (by kernel_rfl) rfl _ (fun w' hw' => NB.run_op_load rfl rfl Try.underlying9 rfl (q9) hw') (fun K hK => ?_); go_simp; refine hK _ ?_; clear hK K
              refine NB.any_p 9 rfl (by kernel_rfl) (fun K hK => ?_); go_simp; refine hK _ ?_; clear hK K
              refine NB.any_p 10 rfl (by kernel_rfl) (fun K hK => ?_); go_simp; refine hK _ ?_; clear hK K
              refine NB.any_end (by kernel_rfl) ?_
              go_wp2_with fail
              exact ⟨⟨j + 1, by omega, by simp, hS9, hR9⟩, by simp [intOf]; omega⟩
            · obtain rfl : j9 = j := by omega
              have hji : ¬ (j9 : Int) < (j9 : Int) := by omega
              go_wp2_with fail
              exact ⟨⟨m + 1, q8, j9, j9, ((l ++ [t]).take j9), D4, S4, _, by omega, by omega, rfl, rfl, rfl, rfl, by simp, hle, HNN.out, hS, hR, HI.out⟩, by simp [intOf]; omega⟩
      case true =>
        cases hp2 : (bits .and .u8 (yb.toNat : Int) 12 == 4)
        case false =>
          go_wp2_with (first
            | (refine NB.wpList_conv_str rfl 23 9 (.tmp 92) rfl Try.underlying23 Try.underlying5 Try.underlying9 ai ni ci t rfl hri4 ?_)
            | (at_builtin; refine wpList_append_s rfl (.tmp 88) (.tmp 94) rfl w.heap.size _ N (strsL l) rfl hR5 _ 1 (strL t) rfl (str_rd w4 t rfl) (str_one t) (by omega) (by simp; omega) ?_; intro v6 w6 hR6 hk6 hv6; have hS6 := hS5.turn (H' := fun k => v6.ownBlock = some k) hk6 (fun k e => ⟨(hR6.lt k e).2, hv6 k e⟩) hlv; have q46 := (Below.cell hS6.low (World.block_lt_of_cell? _ _ q4w)).trans q4w; have q56 := (Below.cell hS6.low (World.block_lt_of_cell? _ _ q5w)).trans q5w))
          obtain ⟨N1, hN1⟩ : ∃ N1, N + 1 = N1 := ⟨_, rfl⟩
          have hcat : strsL l ++ [strL t] = strsL (l ++ [t]) := by simp [strsL]
          rw [hcat, hN1] at hR6
          have hln1 : (l ++ [t]).length = N1 := by rw [List.length_append, HN.out]; exact hN1
          have HN1 := Go.Lib.hid hln1
          have hN1b : N1 ≤ m + 1 := by omega
          have hN1p : 0 < N1 := by omega
          obtain ⟨a6, c6, rfl, hr6⟩ := hR6.rd
          have hc6 : c6 ≤ 9223372036854775807 ∧ N1 ≤ c6 := by have h1 := hr6.le; have h2 := hr6.max; unfold maxLen at h2; omega
          have hsN : s ≤ N1 := by have := HN.out; omega
          clear hS5 hR5 hcat hln1 hk6 hv6 hr6 hri4 q3r hlow4 hlv hN1
          obtain ⟨D2, S2, hsy, hI2⟩ := su_sync HI1.out
          rw [HN1.out] at hI2
          have hwt2 := hI2.waits
          have HSY := Go.Lib.hid hsy
          clear HI
          have HI := Go.Lib.hid hI2
          clear hsy hI2 HI1
          go_at_call 13
          refine (qh_sync _ w _ q p D1 S1 hS6 (by omega)).mono ?_
          rw [HSY.out]
          rintro e w9 ⟨rfl, hS9, hk9⟩
          have hSX : SdH (fun k => (Value.slice a6 N1 c6).ownBlock = some k) w w9 q p D2 S2 := hS9
          have hRX := hR6.keep hk9 (fun k e h => h e)
          have q4r9 := (Below.cell hSX.low (World.block_lt_of_cell? _ _ q4w)).trans q4w
          have q5r9 := (Below.cell hSX.low (World.block_lt_of_cell? _ _ q5w)).trans q5w
          clear hS6 hS9 hR6 hk9 q46
          go_wp2_with fail
          have hI9 : SuI (l ++ [t]) N1 (m + 1) (m + 1 + 1) D2 S2 := HI.out.mono (by omega)
          clear HI
          have HI := Go.Lib.hid hI9
          have HNN := HN1
          have hS := hSX
          have hR := hRX
          clear hI9 hSX hRX HN1
          have hle := HI.out.le
          have hll := HI.out.l
          have hsu := HI.out.sure
          have hrd := fun j hj => su_read HI.out j hj
          have hsm : ∀ b ∈ S2.l, b.length ≤ 100000 := fun b hb => by rw [HI.out.l] at hb; have := HI.out.small b hb; omega
          have hl9 : S2.l.length = N1 := by rw [hll]; exact HNN.out
          have HRD := Go.Lib.hid hrd
          have HSM := Go.Lib.hid hsm
          have HL9 := Go.Lib.hid hl9
          have HSU := Go.Lib.hid hsu
          clear hrd hsm hll hl9 hsu
          go_wp2_with (first
            | (go_at_call 15; refine (qs_len w _ q p D2 S2 hS.sd).mono ?_; rw [HL9.out]; rintro e w' ⟨rfl, e2⟩; subst w')
            | (go_at_call 16; refine (qs_sure w _ q p D2 S2 hS.sd).mono ?_; rw [HSU.out]; rintro e w' ⟨rfl, e2⟩; subst w'))
          go_loopw [17] (fun i wr => ∃ (j : Nat), j ≤ N1 ∧ i = .int .i64 j ∧ SdH (fun k => (Value.slice a6 N1 c6).ownBlock = some k) w wr q p D2 S2 ∧ RowS wr w.heap.size (.slice a6 N1 c6) N1 (strsL (l ++ [t]))) (fun i _ => N1 - (intOf i).toNat)
          case atStart => exact ⟨0, by omega, rfl, hS, hR⟩
          case round =>
            clear hS hR
            obtain ⟨j, hj, rfl, hS, hR⟩ := hrel
            by_cases hjm : j < N1
            · have hji : (j : Int) < (N1 : Int) := by omega
              obtain ⟨gv, cv', e9, hrv, _⟩ := hR.pos (by omega)
              cases e9
              have hr := HRD.out j (by rw [HNN.out]; exact hjm)
              have hsj := strs_at (l ++ [t]) j (by rw [HNN.out]; exact hjm)
              obtain ⟨t9, ht9⟩ : ∃ t9, (l ++ [t]).getD j [] = t9 := ⟨_, rfl⟩
              rw [ht9] at hr hsj
              have q9w := hrv.cell _ _ rfl j _ hsj
              have HR := Go.Lib.hid hr
              clear hr hsj hrv ht9
              go_wp2_with fail
              go_at_call 17
              refine (qh_read _ w _ q p D2 S2 j hS HSM.out).mono ?_
              rw [HR.out]
              rintro e w5 ⟨ar, cr, rfl, hrr, _, hS5, hb5⟩
              replace hrr : NB.RdB w5 ar t9.length cr t9 := hrr
              have hR5 := hR.below hb5
              have q5 := (Below.cell hb5 (World.block_lt_of_cell? _ _ q9w)).trans q9w
              simp only [strL, Nat.zero_add] at q5
              clear hS hR q9w hb5
              go_wp2_with fail
              refine NB.wp_region_m (by kernel_rfl) ?_
              have hr9 := Rd.below hrr (dB w5)
              have q9 := (Below.cell (dB w5) (World.block_lt_of_cell? _ _ q5)).trans q5
              have hS9 := hS5.below (dB w5)
              have hR9 := hR5.below (dB w5)
              generalize w5.drew = w9 at *
              refine NB.any_p 0 rfl (by kernel_rfl) (fun K hK => ?_); go_simp; refine hK _ ?_; clear hK K
              refine NB.any_p 1 rfl (by kernel_rfl) (fun K hK => ?_); go_simp; refine hK _ ?_; clear hK K
              refine NB.any_p 2 rfl (by kernel_rfl) (fun K hK => ?_); go_simp; refine hK _ ?_; clear hK K
              refine NB.any_p 3 rfl (by kernel_rfl) (fun K hK => ?_); go_simp; refine hK _ ?_; clear hK K
              refine NB.any_r 4 rfl (by kernel_rfl) rfl _ (fun w' hw' => NB.run_op_conv_str Try.underlying23 Try.underlying5 Try.underlying9 rfl rfl (Rd.below (hr9) hw')) (fun K hK => ?_); go_simp; refine hK _ ?_; clear hK K
              refine NB.any_p 5 rfl (by kernel_rfl) (fun K hK => ?_); go_simp; refine hK _ ?_; clear hK K
              refine NB.any_p 6 rfl (by kernel_rfl) (fun K hK => ?_); go_simp; refine hK _ ?_; clear hK K
              refine NB.any_p 7 rfl (by kernel_rfl) (fun K hK => ?_); go_simp; refine hK _ ?_; clear hK K
              refine NB.any_r 8 rfl (by kernel_rfl) rfl _ (fun w' hw' => NB.run_op_load rfl rfl Try.underlying9 rfl (q9) hw') (fun K hK => ?_); go_simp; refine hK _ ?_; clear hK K
              refine NB.any_p 9 rfl (by kernel_rfl) (fun K hK => ?_); go_simp; refine hK _ ?_; clear hK K
              refine NB.any_p 10 rfl (by kernel_rfl) (fun K hK => ?_); go_simp; refine hK _ ?_; clear hK K
              refine NB.any_end (by kernel_rfl) ?_
              go_wp2_with fail
              exact ⟨⟨j + 1, by omega, by simp, hS9, hR9⟩, by simp [intOf]; omega⟩
            · obtain rfl : N1 = j := by omega
              have hji : ¬ (N1 : Int) < (N1 : Int) := by omega
              go_wp2_with fail
              exact ⟨⟨m + 1, q, N1, N1, (l ++ [t]), D2, S2, _, by omega, by omega, rfl, rfl, rfl, rfl, by simp, hle, HNN.out, hS, hR, HI.out⟩, by simp [intOf]; omega⟩
        case true =>
          go_wp2_with (first
            | (refine NB.wpList_conv_str rfl 23 9 (.tmp 92) rfl Try.underlying23 Try.underlying5 Try.underlying9 ai ni ci t rfl hri4 ?_)
            | (at_builtin; refine wpList_append_s rfl (.tmp 88) (.tmp 94) rfl w.heap.size _ N (strsL l) rfl hR5 _ 1 (strL t) rfl (str_rd w4 t rfl) (str_one t) (by omega) (by simp; omega) ?_; intro v6 w6 hR6 hk6 hv6; have hS6 := hS5.turn (H' := fun k => v6.ownBlock = some k) hk6 (fun k e => ⟨(hR6.lt k e).2, hv6 k e⟩) hlv; have q46 := (Below.cell hS6.low (World.block_lt_of_cell? _ _ q4w)).trans q4w; have q56 := (Below.cell hS6.low (World.block_lt_of_cell? _ _ q5w)).trans q5w))
          obtain ⟨N1, hN1⟩ : ∃ N1, N + 1 = N1 := ⟨_, rfl⟩
          have hcat : strsL l ++ [strL t] = strsL (l ++ [t]) := by simp [strsL]
          rw [hcat, hN1] at hR6
          have hln1 : (l ++ [t]).length = N1 := by rw [List.length_append, HN.out]; exact hN1
          have HN1 := Go.Lib.hid hln1
          have hN1b : N1 ≤ m + 1 := by omega
          have hN1p : 0 < N1 := by omega
          obtain ⟨a6, c6, rfl, hr6⟩ := hR6.rd
          have hc6 : c6 ≤ 9223372036854775807 ∧ N1 ≤ c6 := by have h1 := hr6.le; have h2 := hr6.max; unfold maxLen at h2; omega
          have hsN : s ≤ N1 := by have := HN.out; omega
          clear hS5 hR5 hcat hln1 hk6 hv6 hr6 hri4 q3r hlow4 hlv hN1
          obtain ⟨D2, S2, hsy, hI2⟩ := su_sync HI1.out
          rw [HN1.out] at hI2
          have hwt2 := hI2.waits
          have HSY := Go.Lib.hid hsy
          clear HI
          have HI := Go.Lib.hid hI2
          clear hsy hI2 HI1
          go_at_call 13
          refine (qh_sync _ w _ q p D1 S1 hS6 (by omega)).mono ?_
          rw [HSY.out]
          rintro e w9 ⟨rfl, hS9, hk9⟩
          have hSX : SdH (fun k => (Value.slice a6 N1 c6).ownBlock = some k) w w9 q p D2 S2 := hS9
          have hRX := hR6.keep hk9 (fun k e h => h e)
          have q4r9 := (Below.cell hSX.low (World.block_lt_of_cell? _ _ q4w)).trans q4w
          have q5r9 := (Below.cell hSX.low (World.block_lt_of_cell? _ _ q5w)).trans q5w
          clear hS6 hS9 hR6 hk9 q46
          go_wp2_with fail
          obtain ⟨j9, S4, hj1, hj2, o1, o2, hI4⟩ := su_crash HI.out (by omega) pk
          have hwt4 := hI4.waits
          obtain ⟨D4, hD4⟩ : ∃ D4, D2.crash pk = D4 := ⟨_, rfl⟩
          rw [hD4] at o1 o2 hI4 hwt4
          have hl4 := hI4.l
          have hl5 : S4.l.length = j9 := by rw [hl4, List.length_take]; omega
          have hN5 : ((l ++ [t]).take j9).length = j9 := by rw [List.length_take]; omega
          have hj3 : j9 ≤ N1 := by rw [← HN1.out]; exact hj2
          have hI5 : SuI ((l ++ [t]).take j9) j9 (m + 1) (m + 1 + 1) D4 S4 := hI4
          clear HI
          have HI := Go.Lib.hid hI5
          have HNN := Go.Lib.hid hN5
          have HD4 := Go.Lib.hid hD4
          have O1 := Go.Lib.hid o1
          have O2 := Go.Lib.hid o2
          have HL5 := Go.Lib.hid hl5
          clear hI4 hI5 hD4 o1 o2 hl4 hl5 hN5 hj2
          go_at_call 14
          refine (qg_crash _ w _ _ p D2 _ _ _ pk hSX.ddh (Below.refl _ _) (offW_old hrp0 hSX.low) (by omega)).mono ?_
          rw [HD4.out]
          rintro e w7 ⟨rfl, hS7, hk7⟩
          have hR7 := hRX.keep hk7 (fun k e h => h e)
          clear hSX hRX hk7
          go_wp2_with fail
          go_at_call 11
          refine (qg_open _ w _ p D4 0 120 hS7 (by omega) i0 i120).mono ?_
          rintro e w8 (⟨hbad, _⟩ | ⟨_, q8, rfl, hS8, hb8⟩)
          · exact absurd O1.out hbad
          rw [O2.out] at hS8
          have hR8 := hR7.below hb8
          obtain ⟨gv, cv', e9, hrv, hgb, hgl⟩ := hR8.pos (by omega)
          cases e9
          have hR := rowS_cut hrv hgb hgl j9 hj3
          have hcut : strsL ((l ++ [t]).take j9) = (strsL (l ++ [t])).take j9 := by simp [strsL]
          rw [← hcut] at hR
          have hS : SdH (fun k => (Value.slice (some ⟨gv, 0, none⟩) j9 j9).ownBlock = some k) w w8 q8 p D4 S4 := hS8
          have hsj : ¬ (j9 : Int) < (N1 : Int) := by omega
          have hsj2 : ¬ (N1 : Int) < (j9 : Int) := by omega
          have hji1 : (j9 : Int) ≤ (c6 : Int) := by omega
          clear hcut hrv hS7 hR7 hR8 hb8 hgb hgl
          go_wp2_with (first
            | (go_at_call 15; refine (qs_len w _ q8 p D4 S4 hS8.sd).mono ?_; rw [HL5.out]; rintro e w' ⟨rfl, e2⟩; subst w'))
          clear hS8
          have hle := HI.out.le
          have hll := HI.out.l
          have hsu := HI.out.sure
          have hrd := fun j hj => su_read HI.out j hj
          have hsm : ∀ b ∈ S4.l, b.length ≤ 100000 := fun b hb => by rw [HI.out.l] at hb; have := HI.out.small b hb; omega
          have hl9 : S4.l.length = j9 := by rw [hll]; exact HNN.out
          have HRD := Go.Lib.hid hrd
          have HSM := Go.Lib.hid hsm
          have HL9 := Go.Lib.hid hl9
          have HSU := Go.Lib.hid hsu
          clear hrd hsm hll hl9 hsu
          go_wp2_with (first
            | (go_at_call 15; refine (qs_len w _ q8 p D4 S4 hS.sd).mono ?_; rw [HL9.out]; rintro e w' ⟨rfl, e2⟩; subst w')
            | (go_at_call 16; refine (qs_sure w _ q8 p D4 S4 hS.sd).mono ?_; rw [HSU.out]; rintro e w' ⟨rfl, e2⟩; subst w'))
          go_loopw [17] (fun i wr => ∃ (j : Nat), j ≤ j9 ∧ i = .int .i64 j ∧ SdH (fun k => (Value.slice (some ⟨gv, 0, none⟩) j9 j9).ownBlock = some k) w wr q8 p D4 S4 ∧ RowS wr w.heap.size (.slice (some ⟨gv, 0, none⟩) j9 j9) j9 (strsL ((l ++ [t]).take j9))) (fun i _ => j9 - (intOf i).toNat)
          case atStart => exact ⟨0, by omega, rfl, hS, hR⟩
          case round =>
            clear hS hR
            obtain ⟨j, hj, rfl, hS, hR⟩ := hrel
            by_cases hjm : j < j9
            · have hji : (j : Int) < (j9 : Int) := by omega
              obtain ⟨gv, cv', e9, hrv, _⟩ := hR.pos (by omega)
              cases e9
              have hr := HRD.out j (by rw [HNN.out]; exact hjm)
              have hsj := strs_at ((l ++ [t]).take j9) j (by rw [HNN.out]; exact hjm)
              obtain ⟨t9, ht9⟩ : ∃ t9, ((l ++ [t]).take j9).getD j [] = t9 := ⟨_, rfl⟩
              rw [ht9] at hr hsj
              have q9w := hrv.cell _ _ rfl j _ hsj
              have HR := Go.Lib.hid hr
              clear hr hsj hrv ht9
              go_wp2_with fail
              go_at_call 17
              refine (qh_read _ w _ q8 p D4 S4 j hS HSM.out).mono ?_
              rw [HR.out]
              rintro e w5 ⟨ar, cr, rfl, hrr, _, hS5, hb5⟩
              replace hrr : NB.RdB w5 ar t9.length cr t9 := hrr
              have hR5 := hR.below hb5
              have q5 := (Below.cell hb5 (World.block_lt_of_cell? _ _ q9w)).trans q9w
              simp only [strL, Nat.zero_add] at q5
              clear hS hR q9w hb5
              go_wp2_with fail
              refine NB.wp_region_m (by kernel_rfl) ?_
              have hr9 := Rd.below hrr (dB w5)
              have q9 := (Below.cell (dB w5) (World.block_lt_of_cell? _ _ q5)).trans q5
              have hS9 := hS5.below (dB w5)
              have hR9 := hR5.below (dB w5)
              generalize w5.drew = w9 at *
              refine NB.any_p 0 rfl (by kernel_rfl) (fun K hK => ?_); go_simp; refine hK _ ?_; clear hK K
              refine NB.any_p 1 rfl (by kernel_rfl) (fun K hK => ?_); go_simp; refine hK _ ?_; clear hK K
              refine NB.any_p 2 rfl (by kernel_rfl) (fun K hK => ?_); go_simp; refine hK _ ?_; clear hK K
              refine NB.any_p 3 rfl (by kernel_rfl) (fun K hK => ?_); go_simp; refine hK _ ?_; clear hK K
              refine NB.any_r 4 rfl (by kernel_rfl) rfl _ (fun w' hw' => NB.run_op_conv_str Try.underlying23 Try.underlying5 Try.underlying9 rfl rfl (Rd.below (hr9) hw')) (fun K hK => ?_); go_simp; refine hK _ ?_; clear hK K
              refine NB.any_p 5 rfl (by kernel_rfl) (fun K hK => ?_); go_simp; refine hK _ ?_; clear hK K
              refine NB.any_p 6 rfl (by kernel_rfl) (fun K hK => ?_); go_simp; refine hK _ ?_; clear hK K
              refine NB.any_p 7 rfl (by kernel_rfl) (fun K hK => ?_); go_simp; refine hK _ ?_; clear hK K
              refine NB.any_r 8 rfl (by kernel_rfl) rfl _ (fun w' hw' => NB.run_op_load rfl rfl Try.underlying9 rfl (q9) hw') (fun K hK => ?_); go_simp; refine hK _ ?_; clear hK K
              refine NB.any_p 9 rfl (by kernel_rfl) (fun K hK => ?_); go_simp; refine hK _ ?_; clear hK K
              refine NB.any_p 10 rfl (by kernel_rfl) (fun K hK => ?_); go_simp; refine hK _ ?_; clear hK K
              refine NB.any_end (by kernel_rfl) ?_
              go_wp2_with fail
              exact ⟨⟨j + 1, by omega, by simp, hS9, hR9⟩, by simp [intOf]; omega⟩
            · obtain rfl : j9 = j := by omega
              have hji : ¬ (j9 : Int) < (j9 : Int) := by omega
              go_wp2_with fail
              exact ⟨⟨m + 1, q8, j9, j9, ((l ++ [t]).take j9), D4, S4, _, by omega, by omega, rfl, rfl, rfl, rfl, by simp, hle, HNN.out, hS, hR, HI.out⟩, by simp [intOf]; omega⟩
    · obtain rfl : m = n := by omega
      have hmi : ¬ (m : Int) < (m : Int) := by omega
      go_wp2_with fail
      go_ret
      exact ⟨rfl, hlow⟩
end Go.Proofs.Ytmgkaoenjnnlmaa
