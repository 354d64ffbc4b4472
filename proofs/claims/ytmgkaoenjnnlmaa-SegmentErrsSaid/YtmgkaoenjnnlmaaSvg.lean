/- The walk for the statement SegmentGives. -/
import Derived.Test.YtmgkaoenjnnlmaaSgw
import Derived.Test.YtmgkaoenjnnlmaaSgx
namespace Go.Proofs.Ytmgkaoenjnnlmaa
open Go.RowKit
open Go.NB (Rd Dk Kp Stp Off Dis val oneB dB I64)

theorem oneL_len (m : Nat) : (oneL m).length = 1 := rfl
theorem oneL_at (m : Nat) (h : m < 256) : ((((oneL m).getD 0 0).toNat : Nat) : Int) = (m : Int) := by
  show (((UInt8.ofNat m).toNat : Nat) : Int) = _
  rw [UInt8.toNat_ofNat']; omega
theorem wrap_small (m : Nat) (h : m < 256) : IntKind.u8.wrap (m : Int) = (m : Int) := by rw [IntKind.wrap_u8]; omega
theorem offW_one {w0 wb : World} {t : TypeId} {m g : Nat} {fr : Nat × Nat} (hm : m < 256) (hg : g = wb.heap.size) : OffW w0 wb (wb.alloc (.cells #[.int .u8 (m : Int)] t fr)) (some ⟨g, 0, none⟩) 1 1 (oneL m) :=
  offW_new (by show [Value.int .u8 (m : Int)] = [NB.u8v (UInt8.ofNat m)]; unfold NB.u8v; rw [UInt8.toNat_ofNat', Nat.mod_eq_of_lt (by omega)]) rfl (by unfold maxLen; omega) hg
theorem gv_small {m i s : Nat} {D : Dk} {S : Sg} (h : GvI m i s D S) : ∀ b ∈ S.l, b.length ≤ 100000 := fun b hb => by
  rw [h.l] at hb
  obtain ⟨j, _, rfl⟩ := List.mem_map.1 hb
  rw [oneL_len]; omega

set_option maxRecDepth 100000 in
set_option maxHeartbeats 8000000 in
theorem law_gives (w : World) (x y low : Int) (hx : (Lit.int .u8 x).wf = true) (hy : (Lit.int .u8 y).wf = true) (hl : (Lit.int .i64 low).wf = true) :
    Calls Try.prog 7 #[.int .u8 x, .int .u8 y, .int .i64 low] w fun e w' => e = .returned (.bool true) ∧ Below w.heap.size w w' := by
  have hxb := bounds_u8 hx
  have hyb := bounds_u8 hy
  clear hx hy hl
  obtain ⟨x, rfl⟩ := Int.eq_ofNat_of_zero_le hxb.1
  obtain ⟨y, rfl⟩ := Int.eq_ofNat_of_zero_le hyb.1
  obtain ⟨n, hn⟩ : ∃ n, x % 20 = n := ⟨_, rfl⟩
  have hn20 : n < 20 := by omega
  have hni : (x : Int) % 20 = (n : Int) := by omega
  obtain ⟨k, hk⟩ : ∃ k, y % (n + 1) = k := ⟨_, rfl⟩
  have hkn : k ≤ n := by have := Nat.mod_lt y (show 0 < n + 1 by omega); omega
  have hki : (y : Int) % ((n : Int) + 1) = (k : Int) := by rw [← hk]; simp
  have hn0 : ((n : Int) + 1 == 0) = false := by simp; omega
  obtain ⟨hop, hI, _⟩ := gv_begin 30 (by omega) (by omega)
  obtain ⟨D0, hD0⟩ : ∃ D0, Dk.fresh 30 = D0 := ⟨_, rfl⟩
  have hnew := fun w1 hb => qd_new w w1 hb 30 (by omega) (by omega)
  unfold NewDd at hnew
  rw [hD0] at hop hI hnew
  replace hop : openE D0 0 30 = 0 := hop
  obtain ⟨S0, hS0⟩ : ∃ S0, openS D0 0 30 = S0 := ⟨_, rfl⟩
  replace hI : GvI 30 0 0 D0 S0 := by rw [← hS0]; exact hI
  have HI := Go.Lib.hid hI
  have HOP := Go.Lib.hid hop
  have HNEW := Go.Lib.hid hnew
  have HS0 := Go.Lib.hid hS0
  have hw0 := hI.waits
  have i0 : I64 0 := i64_nat (k := 0) (by omega)
  have i30 : I64 30 := i64_nat (k := 30) (by omega)
  clear hI hop hnew hS0 hD0 hn hk
  go_enter Try.func7, Try.ntmps7
  go_wp2_with (first
    | (go_at_call 9; refine (awake_any _).mono ?_; rintro e w1 ⟨rfl, hb1⟩)
    | (go_at_call 10; refine (HNEW.out _ hb1).mono ?_; rintro e w2 ⟨p, rfl, hD⟩))
  go_at_call 11
  refine (qs_open w _ p D0 0 30 hD (by omega) i0 i30).mono ?_
  rintro e w3 (⟨hbad, _⟩ | ⟨_, q, rfl, hS⟩)
  · exact absurd HOP.out hbad
  rw [HS0.out] at hS
  clear hD
  go_wp2_with fail
  go_loopw [14] (fun i wr => ∃ (m : Nat) (D : Dk) (S : Sg), m ≤ n ∧ i = .int .i64 m ∧ Sd w wr q p D S ∧ GvI 30 m (if k < m then k else 0) D S) (fun i _ => n - (intOf i).toNat)
  case atStart => exact ⟨0, D0, S0, by omega, rfl, hS, HI.out⟩
  case round =>
    clear hS HI HS0 HOP hw0
    obtain ⟨m, D, S, hm, rfl, hS, hG⟩ := hrel
    have hwt := hG.waits
    have HG := Go.Lib.hid hG
    clear hG
    by_cases hmn : m < n
    · have hmi : (m : Int) < (n : Int) := by omega
      have hwm : IntKind.u8.wrap (m : Int) = (m : Int) := wrap_small m (by omega)
      by_cases hmk : m = k
      · subst hmk
        obtain ⟨D1, S1, hsy, hG1, _⟩ := gv_sync HG.out
        have hwt1 := hG1.waits
        obtain ⟨D2, S2, hap, hG2, _⟩ := gv_app hG1 (by omega)
        have HSY := Go.Lib.hid hsy
        have HAP := Go.Lib.hid hap
        have HG2 := Go.Lib.hid hG2
        clear hsy hap hG1 hG2
        go_wp2_with fail
        go_at_call 13
        refine (qs_sync w _ q p D S hS (by omega)).mono ?_
        rw [HSY.out]
        rintro e w4 ⟨rfl, hS4⟩
        go_wp2_with fail
        go_at_call 12
        refine (qs_app w w4 _ q p D1 S1 _ _ _ (oneL m) hS4 ((Below.refl _ _).alloc (Nat.le_refl _) _) (offW_one (by omega) rfl) (by omega) (by omega)).mono ?_
        rw [HAP.out]
        rintro e w5 ⟨rfl, hS5⟩
        go_wp2_with fail
        exact ⟨⟨m + 1, D2, S2, by omega, by simp, hS5, by rw [if_pos (by omega)]; exact HG2.out⟩, by simp [intOf]; omega⟩
      · have hmkb : ((m : Int) == (k : Int)) = false := by simp; omega
        obtain ⟨D2, S2, hap, hG2, _⟩ := gv_app HG.out (by omega)
        have HAP := Go.Lib.hid hap
        have HG2 := Go.Lib.hid hG2
        clear hap hG2
        go_wp2_with fail
        go_at_call 12
        refine (qs_app w wr _ q p D S _ _ _ (oneL m) hS ((Below.refl _ _).alloc (Nat.le_refl _) _) (offW_one (by omega) rfl) (by omega) (by omega)).mono ?_
        rw [HAP.out]
        rintro e w5 ⟨rfl, hS5⟩
        go_wp2_with fail
        exact ⟨⟨m + 1, D2, S2, by omega, by simp, hS5, by have := HG2.out; rw [show (if k < m + 1 then k else 0) = (if k < m then k else 0) by split <;> split <;> omega]; exact this⟩, by simp [intOf]; omega⟩
    · obtain rfl : m = n := by omega
      have hmi : ¬ (m : Int) < (m : Int) := by omega
      by_cases hkm : k = m
      · have hkmb : ((k : Int) == (m : Int)) = true := by simp; omega
        have hG2 : GvI 30 m k (synM D S).1 (synM D S).2.1 ∧ (synM D S).2.2 = 0 := by
          obtain ⟨D1, S1, hsy, hG1, _⟩ := gv_sync HG.out
          rw [hsy]
          exact ⟨by rw [hkm]; exact hG1, rfl⟩
        have hwt1 := hG2.1.waits
        obtain ⟨D1, S1, x1, hsy⟩ : ∃ D1 S1 x1, synM D S = (D1, S1, x1) := ⟨_, _, _, rfl⟩
        rw [hsy] at hG2 hwt1
        obtain ⟨hG2, hx1⟩ := hG2
        simp only at hG2 hwt1 hx1
        subst hx1
        have HSY := Go.Lib.hid hsy
        clear HG
        have HG := Go.Lib.hid hG2
        clear hsy hG2 hkm
        go_wp2_with fail
        go_at_call 13
        refine (qs_sync w _ q p D S hS (by omega)).mono ?_
        rw [HSY.out]
        rintro e w4 ⟨rfl, hS4⟩
        replace hS4 : Sd w w4 q p D1 S1 := hS4
        clear HSY hS hwt
        have hS := hS4
        clear hS4
        by_cases hlk : (k : Int) < low
        · have hlk' := hlk
          obtain ⟨W, hW⟩ : ∃ W : Nat, (W : Int) = max 0 (min low (k : Int)) := ⟨(max 0 (min low (k : Int))).toNat, by omega⟩
          have hg1 : (trmM S1 low).gone = W := by have h1 := HG.out.gone; have h2 := HG.out.sure; unfold trmM; simp only; omega
          have hg2 : (trmM (trmM S1 low) 0).gone = W := by have h2 := HG.out.sure; have h3 : (trmM (trmM S1 low) 0).gone = (max ((trmM S1 low).gone : Int) (min 0 (S1.sure : Int))).toNat := rfl; rw [h3, hg1]; omega
          have hl9 : (trmM (trmM S1 low) 0).l = (List.range m).map oneL := HG.out.l
          have hrd := fun j hj => gv_read hl9 hg2 j hj
          have hsm : ∀ b ∈ (trmM (trmM S1 low) 0).l, b.length ≤ 100000 := fun b hb => gv_small HG.out b hb
          obtain ⟨T1, hT1⟩ : ∃ T1, trmM S1 low = T1 := ⟨_, rfl⟩
          rw [hT1] at hg1 hg2 hrd hsm hl9
          obtain ⟨T2, hT2⟩ : ∃ T2, trmM T1 0 = T2 := ⟨_, rfl⟩
          rw [hT2] at hg2 hrd hsm hl9
          have HT1 := Go.Lib.hid hT1
          have HT2 := Go.Lib.hid hT2
          have HG1 := Go.Lib.hid hg1
          have HG2 := Go.Lib.hid hg2
          have HRD := Go.Lib.hid hrd
          have HSM := Go.Lib.hid hsm
          clear hg1 hg2 hrd hsm hT1 hT2 hl9
          obtain rfl : k = W := by omega
          clear hW
          go_wp2_with fail
          go_at_call 21
          refine (qs_trim w _ q p D1 S1 low hS).mono ?_
          rw [HT1.out, HG1.out]
          rintro e w5 ⟨rfl, hS5⟩
          go_wp2_with fail
          go_at_call 21
          refine (qs_trim w _ q p D1 T1 0 hS5).mono ?_
          rw [HT2.out, HG2.out]
          rintro e w6 ⟨rfl, hS6⟩
          clear hS hS5
          go_wp2_with fail
          go_loopw [18] (fun i wr => ∃ (j : Nat), j ≤ m ∧ i = .int .i64 j ∧ Sd w wr q p D1 T2) (fun i _ => m - (intOf i).toNat)
          case atStart => exact ⟨0, by omega, rfl, hS6⟩
          case round =>
            clear hS6
            obtain ⟨j, hj, rfl, hS⟩ := hrel
            by_cases hjm : j < m
            · have hji : (j : Int) < (m : Int) := by omega
              have hr := HRD.out j hjm
              by_cases hjW : j < k
              · have hjWi : (j : Int) < (k : Int) := by omega
                have hjWd : decide ((j : Int) < (k : Int)) = true := decide_eq_true hjWi
                rw [if_pos hjW] at hr
                have HR := Go.Lib.hid hr
                clear hr
                go_wp2_with fail
                go_at_call 17
                refine (qs_read w _ q p D1 T2 j hS HSM.out).mono ?_
                rw [HR.out]
                rintro e w7 ⟨ar, cr, rfl, hrr, _, hS7⟩
                go_wp2_with fail
                exact ⟨⟨j + 1, by omega, by simp, hS7⟩, by simp [intOf]; omega⟩
              · have hjWi : ¬ (j : Int) < (k : Int) := by omega
                have hjWd : decide ((j : Int) < (k : Int)) = false := decide_eq_false hjWi
                have hjWg : (k : Int) ≤ (j : Int) := by omega
                rw [if_neg hjW] at hr
                have HR := Go.Lib.hid hr
                clear hr
                go_wp2_with fail
                go_at_call 17
                refine (qs_read w _ q p D1 T2 j hS HSM.out).mono ?_
                rw [HR.out]
                rintro e w7 ⟨ar, cr, rfl, hrr, _, hS7⟩
                replace hrr : NB.RdB w7 ar 1 cr (oneL j) := hrr
                obtain ⟨br, or_, rfl, hc7⟩ := NB.RdB.at hrr (by omega)
                have q7 := hc7 0 (by omega)
                rw [oneL_at j (by omega), Nat.add_zero] at q7
                have hl1 : (oneL j).length = 1 := rfl
                simp only [hl1]
                have hwm : IntKind.u8.wrap (j : Int) = (j : Int) := wrap_small j (by omega)
                clear hc7
                go_wp2_with fail
                exact ⟨⟨j + 1, by omega, by simp, hS7⟩, by simp [intOf]; omega⟩
            · obtain rfl : m = j := by omega
              have hji : ¬ (m : Int) < (m : Int) := by omega
              go_wp2_with fail
              go_ret
              exact ⟨rfl, hS.low⟩
        have hlk' : ¬ (k : Int) < low := hlk
        by_cases hl0 : low < 0
        · have hl0' := hl0
          obtain ⟨W, hW⟩ : ∃ W : Nat, (W : Int) = max 0 (min low (k : Int)) := ⟨(max 0 (min low (k : Int))).toNat, by omega⟩
          have hg1 : (trmM S1 low).gone = W := by have h1 := HG.out.gone; have h2 := HG.out.sure; unfold trmM; simp only; omega
          have hg2 : (trmM (trmM S1 low) 0).gone = W := by have h2 := HG.out.sure; have h3 : (trmM (trmM S1 low) 0).gone = (max ((trmM S1 low).gone : Int) (min 0 (S1.sure : Int))).toNat := rfl; rw [h3, hg1]; omega
          have hl9 : (trmM (trmM S1 low) 0).l = (List.range m).map oneL := HG.out.l
          have hrd := fun j hj => gv_read hl9 hg2 j hj
          have hsm : ∀ b ∈ (trmM (trmM S1 low) 0).l, b.length ≤ 100000 := fun b hb => gv_small HG.out b hb
          obtain ⟨T1, hT1⟩ : ∃ T1, trmM S1 low = T1 := ⟨_, rfl⟩
          rw [hT1] at hg1 hg2 hrd hsm hl9
          obtain ⟨T2, hT2⟩ : ∃ T2, trmM T1 0 = T2 := ⟨_, rfl⟩
          rw [hT2] at hg2 hrd hsm hl9
          have HT1 := Go.Lib.hid hT1
          have HT2 := Go.Lib.hid hT2
          have HG1 := Go.Lib.hid hg1
          have HG2 := Go.Lib.hid hg2
          have HRD := Go.Lib.hid hrd
          have HSM := Go.Lib.hid hsm
          clear hg1 hg2 hrd hsm hT1 hT2 hl9
          obtain rfl : W = 0 := by omega
          clear hW
          go_wp2_with fail
          go_at_call 21
          refine (qs_trim w _ q p D1 S1 low hS).mono ?_
          rw [HT1.out, HG1.out]
          rintro e w5 ⟨rfl, hS5⟩
          go_wp2_with fail
          go_at_call 21
          refine (qs_trim w _ q p D1 T1 0 hS5).mono ?_
          rw [HT2.out, HG2.out]
          rintro e w6 ⟨rfl, hS6⟩
          clear hS hS5
          go_wp2_with fail
          go_loopw [18] (fun i wr => ∃ (j : Nat), j ≤ m ∧ i = .int .i64 j ∧ Sd w wr q p D1 T2) (fun i _ => m - (intOf i).toNat)
          case atStart => exact ⟨0, by omega, rfl, hS6⟩
          case round =>
            clear hS6
            obtain ⟨j, hj, rfl, hS⟩ := hrel
            by_cases hjm : j < m
            · have hji : (j : Int) < (m : Int) := by omega
              have hr := HRD.out j hjm
              by_cases hjW : j < 0
              · exact absurd hjW (Nat.not_lt_zero _)
              · have hjWi : ¬ (j : Int) < 0 := by omega
                have hjWd : decide ((j : Int) < 0) = false := decide_eq_false hjWi
                have hjWg : 0 ≤ (j : Int) := by omega
                rw [if_neg hjW] at hr
                have HR := Go.Lib.hid hr
                clear hr
                go_wp2_with fail
                go_at_call 17
                refine (qs_read w _ q p D1 T2 j hS HSM.out).mono ?_
                rw [HR.out]
                rintro e w7 ⟨ar, cr, rfl, hrr, _, hS7⟩
                replace hrr : NB.RdB w7 ar 1 cr (oneL j) := hrr
                obtain ⟨br, or_, rfl, hc7⟩ := NB.RdB.at hrr (by omega)
                have q7 := hc7 0 (by omega)
                rw [oneL_at j (by omega), Nat.add_zero] at q7
                have hl1 : (oneL j).length = 1 := rfl
                simp only [hl1]
                have hwm : IntKind.u8.wrap (j : Int) = (j : Int) := wrap_small j (by omega)
                clear hc7
                go_wp2_with fail
                exact ⟨⟨j + 1, by omega, by simp, hS7⟩, by simp [intOf]; omega⟩
            · obtain rfl : m = j := by omega
              have hji : ¬ (m : Int) < (m : Int) := by omega
              go_wp2_with fail
              go_ret
              exact ⟨rfl, hS.low⟩
        have hl0' : ¬ low < 0 := hl0
        obtain ⟨L, rfl⟩ := Int.eq_ofNat_of_zero_le (show 0 ≤ low by omega)

        obtain ⟨W, hW⟩ : ∃ W : Nat, (W : Int) = max 0 (min (L : Int) (k : Int)) := ⟨(max 0 (min (L : Int) (k : Int))).toNat, by omega⟩
        have hg1 : (trmM S1 (L : Int)).gone = W := by have h1 := HG.out.gone; have h2 := HG.out.sure; unfold trmM; simp only; omega
        have hg2 : (trmM (trmM S1 (L : Int)) 0).gone = W := by have h2 := HG.out.sure; have h3 : (trmM (trmM S1 (L : Int)) 0).gone = (max ((trmM S1 (L : Int)).gone : Int) (min 0 (S1.sure : Int))).toNat := rfl; rw [h3, hg1]; omega
        have hl9 : (trmM (trmM S1 (L : Int)) 0).l = (List.range m).map oneL := HG.out.l
        have hrd := fun j hj => gv_read hl9 hg2 j hj
        have hsm : ∀ b ∈ (trmM (trmM S1 (L : Int)) 0).l, b.length ≤ 100000 := fun b hb => gv_small HG.out b hb
        obtain ⟨T1, hT1⟩ : ∃ T1, trmM S1 (L : Int) = T1 := ⟨_, rfl⟩
        rw [hT1] at hg1 hg2 hrd hsm hl9
        obtain ⟨T2, hT2⟩ : ∃ T2, trmM T1 0 = T2 := ⟨_, rfl⟩
        rw [hT2] at hg2 hrd hsm hl9
        have HT1 := Go.Lib.hid hT1
        have HT2 := Go.Lib.hid hT2
        have HG1 := Go.Lib.hid hg1
        have HG2 := Go.Lib.hid hg2
        have HRD := Go.Lib.hid hrd
        have HSM := Go.Lib.hid hsm
        clear hg1 hg2 hrd hsm hT1 hT2 hl9
        obtain rfl : L = W := by omega
        clear hW
        go_wp2_with fail
        go_at_call 21
        refine (qs_trim w _ q p D1 S1 (L : Int) hS).mono ?_
        rw [HT1.out, HG1.out]
        rintro e w5 ⟨rfl, hS5⟩
        go_wp2_with fail
        go_at_call 21
        refine (qs_trim w _ q p D1 T1 0 hS5).mono ?_
        rw [HT2.out, HG2.out]
        rintro e w6 ⟨rfl, hS6⟩
        clear hS hS5
        go_wp2_with fail
        go_loopw [18] (fun i wr => ∃ (j : Nat), j ≤ m ∧ i = .int .i64 j ∧ Sd w wr q p D1 T2) (fun i _ => m - (intOf i).toNat)
        case atStart => exact ⟨0, by omega, rfl, hS6⟩
        case round =>
          clear hS6
          obtain ⟨j, hj, rfl, hS⟩ := hrel
          by_cases hjm : j < m
          · have hji : (j : Int) < (m : Int) := by omega
            have hr := HRD.out j hjm
            by_cases hjW : j < L
            · have hjWi : (j : Int) < (L : Int) := by omega
              have hjWd : decide ((j : Int) < (L : Int)) = true := decide_eq_true hjWi
              rw [if_pos hjW] at hr
              have HR := Go.Lib.hid hr
              clear hr
              go_wp2_with fail
              go_at_call 17
              refine (qs_read w _ q p D1 T2 j hS HSM.out).mono ?_
              rw [HR.out]
              rintro e w7 ⟨ar, cr, rfl, hrr, _, hS7⟩
              go_wp2_with fail
              exact ⟨⟨j + 1, by omega, by simp, hS7⟩, by simp [intOf]; omega⟩
            · have hjWi : ¬ (j : Int) < (L : Int) := by omega
              have hjWd : decide ((j : Int) < (L : Int)) = false := decide_eq_false hjWi
              have hjWg : (L : Int) ≤ (j : Int) := by omega
              rw [if_neg hjW] at hr
              have HR := Go.Lib.hid hr
              clear hr
              go_wp2_with fail
              go_at_call 17
              refine (qs_read w _ q p D1 T2 j hS HSM.out).mono ?_
              rw [HR.out]
              rintro e w7 ⟨ar, cr, rfl, hrr, _, hS7⟩
              replace hrr : NB.RdB w7 ar 1 cr (oneL j) := hrr
              obtain ⟨br, or_, rfl, hc7⟩ := NB.RdB.at hrr (by omega)
              have q7 := hc7 0 (by omega)
              rw [oneL_at j (by omega), Nat.add_zero] at q7
              have hl1 : (oneL j).length = 1 := rfl
              simp only [hl1]
              have hwm : IntKind.u8.wrap (j : Int) = (j : Int) := wrap_small j (by omega)
              clear hc7
              go_wp2_with fail
              exact ⟨⟨j + 1, by omega, by simp, hS7⟩, by simp [intOf]; omega⟩
          · obtain rfl : m = j := by omega
            have hji : ¬ (m : Int) < (m : Int) := by omega
            go_wp2_with fail
            go_ret
            exact ⟨rfl, hS.low⟩
      · have hkmb : ((k : Int) == (m : Int)) = false := by simp; omega
        have hG2 := HG.out
        rw [if_pos (by omega)] at hG2
        clear HG
        have HG := Go.Lib.hid hG2
        clear hG2
        by_cases hlk : (k : Int) < low
        · have hlk' := hlk
          obtain ⟨W, hW⟩ : ∃ W : Nat, (W : Int) = max 0 (min low (k : Int)) := ⟨(max 0 (min low (k : Int))).toNat, by omega⟩
          have hg1 : (trmM S low).gone = W := by have h1 := HG.out.gone; have h2 := HG.out.sure; unfold trmM; simp only; omega
          have hg2 : (trmM (trmM S low) 0).gone = W := by have h2 := HG.out.sure; have h3 : (trmM (trmM S low) 0).gone = (max ((trmM S low).gone : Int) (min 0 (S.sure : Int))).toNat := rfl; rw [h3, hg1]; omega
          have hl9 : (trmM (trmM S low) 0).l = (List.range m).map oneL := HG.out.l
          have hrd := fun j hj => gv_read hl9 hg2 j hj
          have hsm : ∀ b ∈ (trmM (trmM S low) 0).l, b.length ≤ 100000 := fun b hb => gv_small HG.out b hb
          obtain ⟨T1, hT1⟩ : ∃ T1, trmM S low = T1 := ⟨_, rfl⟩
          rw [hT1] at hg1 hg2 hrd hsm hl9
          obtain ⟨T2, hT2⟩ : ∃ T2, trmM T1 0 = T2 := ⟨_, rfl⟩
          rw [hT2] at hg2 hrd hsm hl9
          have HT1 := Go.Lib.hid hT1
          have HT2 := Go.Lib.hid hT2
          have HG1 := Go.Lib.hid hg1
          have HG2 := Go.Lib.hid hg2
          have HRD := Go.Lib.hid hrd
          have HSM := Go.Lib.hid hsm
          clear hg1 hg2 hrd hsm hT1 hT2 hl9
          obtain rfl : k = W := by omega
          clear hW
          go_wp2_with fail
          go_at_call 21
          refine (qs_trim w _ q p D S low hS).mono ?_
          rw [HT1.out, HG1.out]
          rintro e w5 ⟨rfl, hS5⟩
          go_wp2_with fail
          go_at_call 21
          refine (qs_trim w _ q p D T1 0 hS5).mono ?_
          rw [HT2.out, HG2.out]
          rintro e w6 ⟨rfl, hS6⟩
          clear hS hS5
          go_wp2_with fail
          go_loopw [18] (fun i wr => ∃ (j : Nat), j ≤ m ∧ i = .int .i64 j ∧ Sd w wr q p D T2) (fun i _ => m - (intOf i).toNat)
          case atStart => exact ⟨0, by omega, rfl, hS6⟩
          case round =>
            clear hS6
            obtain ⟨j, hj, rfl, hS⟩ := hrel
            by_cases hjm : j < m
            · have hji : (j : Int) < (m : Int) := by omega
              have hr := HRD.out j hjm
              by_cases hjW : j < k
              · have hjWi : (j : Int) < (k : Int) := by omega
                have hjWd : decide ((j : Int) < (k : Int)) = true := decide_eq_true hjWi
                rw [if_pos hjW] at hr
                have HR := Go.Lib.hid hr
                clear hr
                go_wp2_with fail
                go_at_call 17
                refine (qs_read w _ q p D T2 j hS HSM.out).mono ?_
                rw [HR.out]
                rintro e w7 ⟨ar, cr, rfl, hrr, _, hS7⟩
                go_wp2_with fail
                exact ⟨⟨j + 1, by omega, by simp, hS7⟩, by simp [intOf]; omega⟩
              · have hjWi : ¬ (j : Int) < (k : Int) := by omega
                have hjWd : decide ((j : Int) < (k : Int)) = false := decide_eq_false hjWi
                have hjWg : (k : Int) ≤ (j : Int) := by omega
                rw [if_neg hjW] at hr
                have HR := Go.Lib.hid hr
                clear hr
                go_wp2_with fail
                go_at_call 17
                refine (qs_read w _ q p D T2 j hS HSM.out).mono ?_
                rw [HR.out]
                rintro e w7 ⟨ar, cr, rfl, hrr, _, hS7⟩
                replace hrr : NB.RdB w7 ar 1 cr (oneL j) := hrr
                obtain ⟨br, or_, rfl, hc7⟩ := NB.RdB.at hrr (by omega)
                have q7 := hc7 0 (by omega)
                rw [oneL_at j (by omega), Nat.add_zero] at q7
                have hl1 : (oneL j).length = 1 := rfl
                simp only [hl1]
                have hwm : IntKind.u8.wrap (j : Int) = (j : Int) := wrap_small j (by omega)
                clear hc7
                go_wp2_with fail
                exact ⟨⟨j + 1, by omega, by simp, hS7⟩, by simp [intOf]; omega⟩
            · obtain rfl : m = j := by omega
              have hji : ¬ (m : Int) < (m : Int) := by omega
              go_wp2_with fail
              go_ret
              exact ⟨rfl, hS.low⟩
        have hlk' : ¬ (k : Int) < low := hlk
        by_cases hl0 : low < 0
        · have hl0' := hl0
          obtain ⟨W, hW⟩ : ∃ W : Nat, (W : Int) = max 0 (min low (k : Int)) := ⟨(max 0 (min low (k : Int))).toNat, by omega⟩
          have hg1 : (trmM S low).gone = W := by have h1 := HG.out.gone; have h2 := HG.out.sure; unfold trmM; simp only; omega
          have hg2 : (trmM (trmM S low) 0).gone = W := by have h2 := HG.out.sure; have h3 : (trmM (trmM S low) 0).gone = (max ((trmM S low).gone : Int) (min 0 (S.sure : Int))).toNat := rfl; rw [h3, hg1]; omega
          have hl9 : (trmM (trmM S low) 0).l = (List.range m).map oneL := HG.out.l
          have hrd := fun j hj => gv_read hl9 hg2 j hj
          have hsm : ∀ b ∈ (trmM (trmM S low) 0).l, b.length ≤ 100000 := fun b hb => gv_small HG.out b hb
          obtain ⟨T1, hT1⟩ : ∃ T1, trmM S low = T1 := ⟨_, rfl⟩
          rw [hT1] at hg1 hg2 hrd hsm hl9
          obtain ⟨T2, hT2⟩ : ∃ T2, trmM T1 0 = T2 := ⟨_, rfl⟩
          rw [hT2] at hg2 hrd hsm hl9
          have HT1 := Go.Lib.hid hT1
          have HT2 := Go.Lib.hid hT2
          have HG1 := Go.Lib.hid hg1
          have HG2 := Go.Lib.hid hg2
          have HRD := Go.Lib.hid hrd
          have HSM := Go.Lib.hid hsm
          clear hg1 hg2 hrd hsm hT1 hT2 hl9
          obtain rfl : W = 0 := by omega
          clear hW
          go_wp2_with fail
          go_at_call 21
          refine (qs_trim w _ q p D S low hS).mono ?_
          rw [HT1.out, HG1.out]
          rintro e w5 ⟨rfl, hS5⟩
          go_wp2_with fail
          go_at_call 21
          refine (qs_trim w _ q p D T1 0 hS5).mono ?_
          rw [HT2.out, HG2.out]
          rintro e w6 ⟨rfl, hS6⟩
          clear hS hS5
          go_wp2_with fail
          go_loopw [18] (fun i wr => ∃ (j : Nat), j ≤ m ∧ i = .int .i64 j ∧ Sd w wr q p D T2) (fun i _ => m - (intOf i).toNat)
          case atStart => exact ⟨0, by omega, rfl, hS6⟩
          case round =>
            clear hS6
            obtain ⟨j, hj, rfl, hS⟩ := hrel
            by_cases hjm : j < m
            · have hji : (j : Int) < (m : Int) := by omega
              have hr := HRD.out j hjm
              by_cases hjW : j < 0
              · exact absurd hjW (Nat.not_lt_zero _)
              · have hjWi : ¬ (j : Int) < 0 := by omega
                have hjWd : decide ((j : Int) < 0) = false := decide_eq_false hjWi
                have hjWg : 0 ≤ (j : Int) := by omega
                rw [if_neg hjW] at hr
                have HR := Go.Lib.hid hr
                clear hr
                go_wp2_with fail
                go_at_call 17
                refine (qs_read w _ q p D T2 j hS HSM.out).mono ?_
                rw [HR.out]
                rintro e w7 ⟨ar, cr, rfl, hrr, _, hS7⟩
                replace hrr : NB.RdB w7 ar 1 cr (oneL j) := hrr
                obtain ⟨br, or_, rfl, hc7⟩ := NB.RdB.at hrr (by omega)
                have q7 := hc7 0 (by omega)
                rw [oneL_at j (by omega), Nat.add_zero] at q7
                have hl1 : (oneL j).length = 1 := rfl
                simp only [hl1]
                have hwm : IntKind.u8.wrap (j : Int) = (j : Int) := wrap_small j (by omega)
                clear hc7
                go_wp2_with fail
                exact ⟨⟨j + 1, by omega, by simp, hS7⟩, by simp [intOf]; omega⟩
            · obtain rfl : m = j := by omega
              have hji : ¬ (m : Int) < (m : Int) := by omega
              go_wp2_with fail
              go_ret
              exact ⟨rfl, hS.low⟩
        have hl0' : ¬ low < 0 := hl0
        obtain ⟨L, rfl⟩ := Int.eq_ofNat_of_zero_le (show 0 ≤ low by omega)

        obtain ⟨W, hW⟩ : ∃ W : Nat, (W : Int) = max 0 (min (L : Int) (k : Int)) := ⟨(max 0 (min (L : Int) (k : Int))).toNat, by omega⟩
        have hg1 : (trmM S (L : Int)).gone = W := by have h1 := HG.out.gone; have h2 := HG.out.sure; unfold trmM; simp only; omega
        have hg2 : (trmM (trmM S (L : Int)) 0).gone = W := by have h2 := HG.out.sure; have h3 : (trmM (trmM S (L : Int)) 0).gone = (max ((trmM S (L : Int)).gone : Int) (min 0 (S.sure : Int))).toNat := rfl; rw [h3, hg1]; omega
        have hl9 : (trmM (trmM S (L : Int)) 0).l = (List.range m).map oneL := HG.out.l
        have hrd := fun j hj => gv_read hl9 hg2 j hj
        have hsm : ∀ b ∈ (trmM (trmM S (L : Int)) 0).l, b.length ≤ 100000 := fun b hb => gv_small HG.out b hb
        obtain ⟨T1, hT1⟩ : ∃ T1, trmM S (L : Int) = T1 := ⟨_, rfl⟩
        rw [hT1] at hg1 hg2 hrd hsm hl9
        obtain ⟨T2, hT2⟩ : ∃ T2, trmM T1 0 = T2 := ⟨_, rfl⟩
        rw [hT2] at hg2 hrd hsm hl9
        have HT1 := Go.Lib.hid hT1
        have HT2 := Go.Lib.hid hT2
        have HG1 := Go.Lib.hid hg1
        have HG2 := Go.Lib.hid hg2
        have HRD := Go.Lib.hid hrd
        have HSM := Go.Lib.hid hsm
        clear hg1 hg2 hrd hsm hT1 hT2 hl9
        obtain rfl : L = W := by omega
        clear hW
        go_wp2_with fail
        go_at_call 21
        refine (qs_trim w _ q p D S (L : Int) hS).mono ?_
        rw [HT1.out, HG1.out]
        rintro e w5 ⟨rfl, hS5⟩
        go_wp2_with fail
        go_at_call 21
        refine (qs_trim w _ q p D T1 0 hS5).mono ?_
        rw [HT2.out, HG2.out]
        rintro e w6 ⟨rfl, hS6⟩
        clear hS hS5
        go_wp2_with fail
        go_loopw [18] (fun i wr => ∃ (j : Nat), j ≤ m ∧ i = .int .i64 j ∧ Sd w wr q p D T2) (fun i _ => m - (intOf i).toNat)
        case atStart => exact ⟨0, by omega, rfl, hS6⟩
        case round =>
          clear hS6
          obtain ⟨j, hj, rfl, hS⟩ := hrel
          by_cases hjm : j < m
          · have hji : (j : Int) < (m : Int) := by omega
            have hr := HRD.out j hjm
            by_cases hjW : j < L
            · have hjWi : (j : Int) < (L : Int) := by omega
              have hjWd : decide ((j : Int) < (L : Int)) = true := decide_eq_true hjWi
              rw [if_pos hjW] at hr
              have HR := Go.Lib.hid hr
              clear hr
              go_wp2_with fail
              go_at_call 17
              refine (qs_read w _ q p D T2 j hS HSM.out).mono ?_
              rw [HR.out]
              rintro e w7 ⟨ar, cr, rfl, hrr, _, hS7⟩
              go_wp2_with fail
              exact ⟨⟨j + 1, by omega, by simp, hS7⟩, by simp [intOf]; omega⟩
            · have hjWi : ¬ (j : Int) < (L : Int) := by omega
              have hjWd : decide ((j : Int) < (L : Int)) = false := decide_eq_false hjWi
              have hjWg : (L : Int) ≤ (j : Int) := by omega
              rw [if_neg hjW] at hr
              have HR := Go.Lib.hid hr
              clear hr
              go_wp2_with fail
              go_at_call 17
              refine (qs_read w _ q p D T2 j hS HSM.out).mono ?_
              rw [HR.out]
              rintro e w7 ⟨ar, cr, rfl, hrr, _, hS7⟩
              replace hrr : NB.RdB w7 ar 1 cr (oneL j) := hrr
              obtain ⟨br, or_, rfl, hc7⟩ := NB.RdB.at hrr (by omega)
              have q7 := hc7 0 (by omega)
              rw [oneL_at j (by omega), Nat.add_zero] at q7
              have hl1 : (oneL j).length = 1 := rfl
              simp only [hl1]
              have hwm : IntKind.u8.wrap (j : Int) = (j : Int) := wrap_small j (by omega)
              clear hc7
              go_wp2_with fail
              exact ⟨⟨j + 1, by omega, by simp, hS7⟩, by simp [intOf]; omega⟩
          · obtain rfl : m = j := by omega
            have hji : ¬ (m : Int) < (m : Int) := by omega
            go_wp2_with fail
            go_ret
            exact ⟨rfl, hS.low⟩
end Go.Proofs.Ytmgkaoenjnnlmaa
