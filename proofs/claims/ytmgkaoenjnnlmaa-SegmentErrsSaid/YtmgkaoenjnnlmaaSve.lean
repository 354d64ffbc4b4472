/- The walk for the statement SegmentErrs. -/
import Derived.Test.YtmgkaoenjnnlmaaSvg
namespace Go.Proofs.Ytmgkaoenjnnlmaa
open Go.RowKit
open Go.NB (Rd Dk Kp Stp Off Dis val oneB dB I64)

theorem er_small {n m k i : Nat} {D : Dk} {S : Sg} (h : Fails ((List.range n).map oneL) n m k i D S) (hl : S.l.length ≤ 1000) (hb : ∀ b ∈ S.l, b.length ≤ 100000) : ∀ b ∈ S.l, b.length ≤ 100000 := hb
theorem app_l (D : Dk) (S : Sg) (b : List UInt8) : (appM D S b).2.1.l = S.l ∨ (appM D S b).2.1.l = S.l ++ [b] := by
  unfold appM
  split
  · exact .inl rfl
  split
  · exact .inl rfl
  split
  · exact .inl rfl
  split
  · exact .inl rfl
  · exact .inr rfl

set_option maxRecDepth 100000 in
set_option maxHeartbeats 8000000 in
theorem law_errs (w : World) (x y z : Int) (hx : (Lit.int .u8 x).wf = true) (hy : (Lit.int .u8 y).wf = true) (hz : (Lit.int .u8 z).wf = true) :
    Calls Try.prog 5 #[.int .u8 x, .int .u8 y, .int .u8 z] w fun e w' => e = .returned (.bool true) ∧ Below w.heap.size w w' := by
  have hxb := bounds_u8 hx
  have hyb := bounds_u8 hy
  have hzb := bounds_u8 hz
  clear hx hy hz
  obtain ⟨x, rfl⟩ := Int.eq_ofNat_of_zero_le hxb.1
  obtain ⟨y, rfl⟩ := Int.eq_ofNat_of_zero_le hyb.1
  obtain ⟨z, rfl⟩ := Int.eq_ofNat_of_zero_le hzb.1
  obtain ⟨n, hn⟩ : ∃ n, x % 8 + 1 = n := ⟨_, rfl⟩
  have hn8 : n ≤ 8 := by omega
  have hn1 : 1 ≤ n := by omega
  have hni : (x : Int) % 8 + 1 = (n : Int) := by omega
  obtain ⟨k, hk⟩ : ∃ k, y % 4 = k := ⟨_, rfl⟩
  have hk4 : k ≤ 3 := by omega
  have hki : (y : Int) % 4 = (k : Int) := by omega
  obtain ⟨M, hM⟩ : ∃ M, z % 12 = M := ⟨_, rfl⟩
  have hM12 : M ≤ 11 := by omega
  have hMi : (z : Int) % 12 = (M : Int) := by omega
  obtain ⟨hop, hI, hfr⟩ := gv_begin 40 (by omega) (by omega)
  obtain ⟨D0, hD0⟩ : ∃ D0, Dk.fresh 40 = D0 := ⟨_, rfl⟩
  have hnew := fun w1 hb => qd_new w w1 hb 40 (by omega) (by omega)
  have hdl : (Dk.fresh 40).l.length = 40 := by simp [Dk.fresh]
  unfold NewDd at hnew
  rw [hD0] at hop hI hnew hfr hdl
  replace hop : openE D0 0 40 = 0 := hop
  obtain ⟨S0, hS0⟩ : ∃ S0, openS D0 0 40 = S0 := ⟨_, rfl⟩
  replace hI : GvI 40 0 0 D0 S0 ∧ S0.frm = 0 ∧ D0.l.length = 40 := by rw [← hS0]; exact ⟨hI, hfr, hdl⟩
  have HI := Go.Lib.hid hI
  have HOP := Go.Lib.hid hop
  have HNEW := Go.Lib.hid hnew
  have HS0 := Go.Lib.hid hS0
  have hw0 := hI.1.waits
  have i0 : I64 0 := i64_nat (k := 0) (by omega)
  have i40 : I64 40 := i64_nat (k := 40) (by omega)
  clear hI hop hnew hS0 hD0 hn hk hM hfr hdl
  go_enter Try.func5, Try.ntmps5
  go_wp2_with (first
    | (go_at_call 9; refine (awake_any _).mono ?_; rintro e w1 ⟨rfl, hb1⟩)
    | (go_at_call 10; refine (HNEW.out _ hb1).mono ?_; rintro e w2 ⟨p, rfl, hD⟩))
  go_at_call 11
  refine (qs_open w _ p D0 0 40 hD (by omega) i0 i40).mono ?_
  rintro e w3 (⟨hbad, _⟩ | ⟨_, q, rfl, hS⟩)
  · exact absurd HOP.out hbad
  rw [HS0.out] at hS
  clear hD
  go_wp2_with fail
  go_loopw [13] (fun i wr => ∃ (m : Nat) (D : Dk) (S : Sg), m ≤ n ∧ i = .int .i64 m ∧ Sd w wr q p D S ∧ (GvI 40 m 0 D S ∧ S.frm = 0 ∧ D.l.length = 40)) (fun i _ => n - (intOf i).toNat)
  case atStart => exact ⟨0, D0, S0, by omega, rfl, hS, HI.out⟩
  case round =>
    clear hS HI HS0 HOP hw0
    obtain ⟨m, D, S, hm, rfl, hS, hG⟩ := hrel
    have hwt := hG.1.waits
    have HG := Go.Lib.hid hG
    clear hG
    by_cases hmn : m < n
    · have hmi : (m : Int) < (n : Int) := by omega
      have hwm : IntKind.u8.wrap (m : Int) = (m : Int) := wrap_small m (by omega)
      obtain ⟨D2, S2, hap, hG2, hf2, hl2⟩ := gv_app HG.out.1 (by omega)
      have HAP := Go.Lib.hid hap
      have HG2 := Go.Lib.hid (And.intro hG2 (And.intro (hf2.trans HG.out.2.1) (hl2.trans HG.out.2.2)))
      clear hap hG2 hf2 hl2
      go_wp2_with fail
      go_at_call 12
      refine (qs_app w wr _ q p D S _ _ _ (oneL m) hS ((Below.refl _ _).alloc (Nat.le_refl _) _) (offW_one (by omega) rfl) (by omega) (by omega)).mono ?_
      rw [HAP.out]
      rintro e w5 ⟨rfl, hS5⟩
      go_wp2_with fail
      exact ⟨⟨m + 1, D2, S2, by omega, by simp, hS5, HG2.out⟩, by simp [intOf]; omega⟩
    · obtain rfl : m = n := by omega
      have hmi : ¬ (m : Int) < (m : Int) := by omega
      obtain ⟨D1, S1, hsy, hG1, hf1, hl1, hs1⟩ := gv_sync HG.out.1
      have hF := er_begin (k := k) hG1 (hf1.trans HG.out.2.1) (hl1.trans HG.out.2.2) hs1
      have hwt1 := hG1.waits
      have hsm := gv_small hG1
      obtain ⟨D2, hD2⟩ : ∃ D2, D1.stop (k : Int) = D2 := ⟨_, rfl⟩
      rw [hD2] at hF
      have HSY := Go.Lib.hid hsy
      have HF := Go.Lib.hid hF
      have HD2 := Go.Lib.hid hD2
      have HSM := Go.Lib.hid hsm
      clear hsy hG1 hf1 hl1 hs1 hF hD2 hsm HG
      go_wp2_with fail
      go_at_call 13
      refine (qs_sync w _ q p D S hS (by omega)).mono ?_
      rw [HSY.out]
      rintro e w4 ⟨rfl, hS4⟩
      replace hS4 : Sd w w4 q p D1 S1 := hS4
      go_wp2_with fail
      go_at_call 19
      refine (qs_stop w _ q p D1 S1 k (by omega) hS4).mono ?_
      rw [HD2.out]
      rintro e w5 ⟨rfl, hS5⟩
      clear hS hS4
      go_wp2_with fail
      go_loopw [14, 15] (fun f i wr => ∃ (j : Nat) (B : Bool) (D : Dk) (S : Sg), j ≤ M ∧ f = .bool B ∧ B = decide (k < j) ∧ i = .int .i64 j ∧ Sd w wr q p D S ∧ (Fails ((List.range m).map oneL) m 40 k j D S ∧ ∀ b ∈ S.l, b.length ≤ 100000)) (fun _ i _ => M - (intOf i).toNat)
      case atStart => exact ⟨0, false, D2, S1, by omega, rfl, by simp, rfl, hS5, HF.out, HSM.out⟩
      case round =>
        clear hS5 HF HSM HD2 HSY
        obtain ⟨j, B, D, S, hj, rfl, hB, rfl, hS, hF⟩ := hrel
        have hwt := hF.1.w
        have HF := Go.Lib.hid hF
        have HB := Go.Lib.hid hB
        clear hF hB
        by_cases hjM : j < M
        · have hji : (j : Int) < (M : Int) := by omega
          obtain ⟨he, hF2⟩ := fails_step HF.out.1 (by omega) (b := oneL 9) (by rw [oneL_len]; omega)
          have hsm2 : ∀ b ∈ (appM D S (oneL 9)).2.1.l, b.length ≤ 100000 := fun b hb => by
            rcases app_l D S (oneL 9) with h1 | h1
            · rw [h1] at hb; exact HF.out.2 b hb
            · rw [h1] at hb
              rcases List.mem_append.1 hb with hb | hb
              · exact HF.out.2 b hb
              · rw [List.mem_singleton.1 hb, oneL_len]; omega
          obtain ⟨D3, S3, xx, ee, hap⟩ : ∃ D3 S3 xx ee, appM D S (oneL 9) = (D3, S3, xx, ee) := ⟨_, _, _, _, rfl⟩
          rw [hap] at he hF2 hsm2
          simp only at he hF2 hsm2
          have HAP := Go.Lib.hid hap
          have HF2 := Go.Lib.hid (And.intro hF2 hsm2)
          clear hap hF2 hsm2
          by_cases hkj : k ≤ j
          · rw [if_pos hkj] at he
            subst he
            have hgi : (k : Int) ≤ (j : Int) := by omega
            have hgd : decide ((k : Int) ≤ (j : Int)) = true := decide_eq_true hgi
            cases B
            case false =>
              go_wp2_with fail
              go_at_call 12
              refine (qs_app w wr _ q p D S _ _ _ (oneL 9) hS ((Below.refl _ _).alloc (Nat.le_refl _) _) (offW_one (m := 9) (by omega) rfl) (by omega) (by omega)).mono ?_
              rw [HAP.out]
              rintro e w6 ⟨rfl, hS6⟩
              go_wp2_with fail
              exact ⟨⟨j + 1, true, D3, S3, by omega, by simp, by simp; omega, by simp, hS6, HF2.out⟩, by simp [intOf]; omega⟩
            case true =>
              go_wp2_with fail
              go_at_call 12
              refine (qs_app w wr _ q p D S _ _ _ (oneL 9) hS ((Below.refl _ _).alloc (Nat.le_refl _) _) (offW_one (m := 9) (by omega) rfl) (by omega) (by omega)).mono ?_
              rw [HAP.out]
              rintro e w6 ⟨rfl, hS6⟩
              go_wp2_with fail
              exact ⟨⟨j + 1, true, D3, S3, by omega, by simp, by simp; omega, by simp, hS6, HF2.out⟩, by simp [intOf]; omega⟩
          · rw [if_neg hkj] at he
            subst he
            have hgi : ¬ (k : Int) ≤ (j : Int) := by omega
            have hgd : decide ((k : Int) ≤ (j : Int)) = false := decide_eq_false hgi
            obtain rfl : B = false := by rw [HB.out]; simp; omega
            go_wp2_with fail
            go_at_call 12
            refine (qs_app w wr _ q p D S _ _ _ (oneL 9) hS ((Below.refl _ _).alloc (Nat.le_refl _) _) (offW_one (m := 9) (by omega) rfl) (by omega) (by omega)).mono ?_
            rw [HAP.out]
            rintro e w6 ⟨rfl, hS6⟩
            go_wp2_with fail
            exact ⟨⟨j + 1, false, D3, S3, by omega, by simp, by simp; omega, by simp, hS6, HF2.out⟩, by simp [intOf]; omega⟩
        · obtain rfl : M = j := by omega
          have hji : ¬ (M : Int) < (M : Int) := by omega
          go_wp2_with fail
          go_loopw [18] (fun i wr => ∃ (i' : Nat), i' ≤ m ∧ i = .int .i64 i' ∧ Sd w wr q p D S) (fun i _ => m - (intOf i).toNat)
          case atStart => exact ⟨0, by omega, rfl, hS⟩
          case round =>
            clear hS
            obtain ⟨i, hi, rfl, hS⟩ := hrel
            by_cases him : i < m
            · have hii : (i : Int) < (m : Int) := by omega
              have hr := er_read HF.out.1 i him
              have HR := Go.Lib.hid hr
              clear hr
              go_wp2_with fail
              go_at_call 17
              refine (qs_read w _ q p D S i hS HF.out.2).mono ?_
              rw [HR.out]
              rintro e w7 ⟨ar, cr, rfl, hrr, _, hS7⟩
              replace hrr : NB.RdB w7 ar 1 cr (oneL i) := hrr
              obtain ⟨br, or_, rfl, hc7⟩ := NB.RdB.at hrr (by omega)
              have q7 := hc7 0 (by omega)
              rw [oneL_at i (by omega), Nat.add_zero] at q7
              have hl1 : (oneL i).length = 1 := rfl
              simp only [hl1]
              have hwm : IntKind.u8.wrap (i : Int) = (i : Int) := wrap_small i (by omega)
              clear hc7
              go_wp2_with fail
              exact ⟨⟨i + 1, by omega, by simp, hS7⟩, by simp [intOf]; omega⟩
            · obtain rfl : m = i := by omega
              have hii : ¬ (m : Int) < (m : Int) := by omega
              have hsu := HF.out.1.sure
              have HSU := Go.Lib.hid hsu
              clear hsu
              cases B
              case false =>
                go_wp2_with (first
                  | (go_at_call 16; refine (qs_sure w _ q p D S hS).mono ?_; rw [HSU.out]; rintro e w' ⟨rfl, e2⟩; subst w'))
                go_ret
                exact ⟨rfl, hS.low⟩
              case true =>
                have hkM : k < M := by have := HB.out; simpa using this
                have hse := HF.out.1.bad hkM
                have hsy : synM D S = (D, S, 20) := by unfold synM; rw [if_pos (by rw [hse]; decide), hse]
                have HSY := Go.Lib.hid hsy
                clear hsy hse
                go_wp2_with (first
                  | (go_at_call 16; refine (qs_sure w _ q p D S hS).mono ?_; rw [HSU.out]; rintro e w' ⟨rfl, e2⟩; subst w')
                  | (go_at_call 13; refine (qs_sync w _ q p D S hS (by omega)).mono ?_; rw [HSY.out]; rintro e w9 ⟨rfl, hS9⟩))
                go_ret
                exact ⟨rfl, hS9.low⟩
end Go.Proofs.Ytmgkaoenjnnlmaa
