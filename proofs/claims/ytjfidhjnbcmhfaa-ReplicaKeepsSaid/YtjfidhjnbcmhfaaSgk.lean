/- A segment is opened. Walked. -/
import Derived.Test.YtjfidhjnbcmhfaaSgx1
import Derived.Test.YtjfidhjnbcmhfaaTalq
import Derived.Test.YtjfidhjnbcmhfaaSgp
namespace Go.Proofs.Ytjfidhjnbcmhfaa
open Go.RowKit Go.Shelf
open Go.NB (Rd Dk Kp Stp Off Dis val oneB dB Rw MapI KeyI I64)

/-- What opening leaves. -/
def OpenS (w : World) (p : Nat) (D : Dk) (frm n : Int) (e : Ending) (w' : World) : Prop :=
  (openE D frm n ≠ 0 ∧ e = .returned (.tuple #[.pointer none, .int .i64 (openE D frm n)]) ∧ Below w.heap.size w w') ∨
  (openE D frm n = 0 ∧ ∃ q F, e = .returned (.tuple #[.pointer (some ⟨q, 0, none⟩), .int .i64 0]) ∧ HasSg w' w.heap.size q p F (openS D frm n) ∧ Below w.heap.size w w')

theorem openS_err {w w' : World} {p : Nat} {D : Dk} {frm n : Int} (x : Int) (hx : openE D frm n = x) (h0 : x ≠ 0) (hb : Below w.heap.size w w') : OpenS w p D frm n (.returned (.tuple #[.pointer none, .int .i64 x])) w' :=
  .inl ⟨by rw [hx]; exact h0, by rw [hx], hb⟩
theorem openS_ok {w w' : World} {p q : Nat} {F : Nat → Prop} {D : Dk} {frm n : Int} {S : Sg} (hx : openE D frm n = 0) (hS : openS D frm n = S) (h : HasSg w' w.heap.size q p F S) (hb : Below w.heap.size w w') : OpenS w p D frm n (.returned (.tuple #[.pointer (some ⟨q, 0, none⟩), .int .i64 0])) w' :=
  .inr ⟨hx, q, F, rfl, by rw [hS]; exact h, hb⟩

/-- What the sixth cell of a block says. -/
def usedAt (q : Nat) (w : World) : Nat := match w.cell? ⟨q, 5, none⟩ with | some (.int _ u) => u.toNat | _ => 0
theorem IsSg.usedAt {w : World} {base q p : Nat} {v : Value} {its : List Itm} {S : Sg} (h : IsSg w base q p v its S) : usedAt q w = S.used := by
  unfold Go.Proofs.Ytjfidhjnbcmhfaa.usedAt
  rw [h.cellv 5 _ rfl]
  simp

set_option maxRecDepth 100000 in
set_option maxHeartbeats 4000000 in
theorem sopen_any (w : World) (base p : Nat) (G : Nat → Prop) (D : Dk) (frm n : Int) (hD : HasD w base p G D) (hwn : D.waits.length ≤ 1000000) (hi1 : I64 frm) (hi2 : I64 n) :
    Calls Try.prog 21 #[.pointer (some ⟨p, 0, none⟩), .int .i64 frm, .int .i64 n] w (OpenS w p D frm n) := by
  have hlen : D.l.length ≤ 65536 := by obtain ⟨bl, vW, h, _⟩ := hD; exact h.n
  by_cases h1 : frm < 0
  · have hE : openE D frm n = 1 := by unfold openE; rw [if_pos (by omega)]
    go_enter Try.func21, Try.ntmps21
    go_wp2_with (go_at_call 34; refine (dlen_any _ _ _ _ _ hD).mono ?_; rintro e w' ⟨rfl, e2⟩; subst w')
    go_ret2
    exact openS_err 1 hE (by decide) (Below.refl _ _)
  by_cases h2 : n < 1
  · have hE : openE D frm n = 1 := by unfold openE; rw [if_pos (by omega)]
    go_enter Try.func21, Try.ntmps21
    go_wp2_with (go_at_call 34; refine (dlen_any _ _ _ _ _ hD).mono ?_; rintro e w' ⟨rfl, e2⟩; subst w')
    go_ret2
    exact openS_err 1 hE (by decide) (Below.refl _ _)
  by_cases h3 : (D.l.length : Int) < frm
  · have hE : openE D frm n = 1 := by unfold openE; rw [if_pos (by omega)]
    go_enter Try.func21, Try.ntmps21
    go_wp2_with (go_at_call 34; refine (dlen_any _ _ _ _ _ hD).mono ?_; rintro e w' ⟨rfl, e2⟩; subst w')
    go_ret2
    exact openS_err 1 hE (by decide) (Below.refl _ _)
  have hwl : IntKind.i64.wrap ((D.l.length : Int) - frm) = (D.l.length : Int) - frm := IntWalk.i64_in _ ⟨by omega, by omega⟩
  by_cases h4 : (D.l.length : Int) - frm < n
  · have hE : openE D frm n = 1 := by unfold openE; rw [if_pos (by omega)]
    go_enter Try.func21, Try.ntmps21
    go_wp2_with (go_at_call 34; refine (dlen_any _ _ _ _ _ hD).mono ?_; rintro e w' ⟨rfl, e2⟩; subst w')
    go_ret2
    exact openS_err 1 hE (by decide) (Below.refl _ _)
  obtain ⟨fr, rfl⟩ : ∃ k : Nat, frm = (k : Int) := ⟨frm.toNat, by omega⟩
  obtain ⟨nn, rfl⟩ : ∃ k : Nat, n = (k : Int) := ⟨n.toNat, by omega⟩
  have hE : openE D (fr : Int) (nn : Int) = if D.down then 20 else if 4294967295 ≤ topM (regM D fr nn) then 37 else 0 := by
    unfold openE; rw [if_neg (by omega), Int.toNat_natCast, Int.toNat_natCast]
  have hS : openS D (fr : Int) (nn : Int) = openR fr nn (regM D fr nn) := by unfold openS; rw [Int.toNat_natCast, Int.toNat_natCast]
  have ctl := dlen_any w base p G D hD
  have cta := all_any w base p G D fr nn hD hwn (by omega) (by omega)
  have hRn : (regM D fr nn).length = nn := by simp [regM]
  unfold AllS at cta
  clear hD
  generalize regM D fr nn = R at *
  cases hdn : D.down with
  | true =>
    rw [hdn] at cta
    rw [hdn, if_pos rfl] at hE
    clear hS
    go_enter Try.func21, Try.ntmps21
    go_wp2_with (go_at_call 34; refine ctl.mono ?_; rintro e w' ⟨rfl, e2⟩; subst w')
    refine cta.mono ?_
    rintro e w1 (⟨_, rfl, hb⟩ | ⟨h, _⟩)
    · go_wp2_with fail
      go_ret2
      exact openS_err 20 hE (by decide) hb
    · cases h
  | false =>
    rw [hdn] at cta
    rw [hdn, if_neg (by decide)] at hE
    have HE := Go.Lib.hid hE; have HS := Go.Lib.hid hS
    clear hE hS
    go_enter Try.func21, Try.ntmps21
    go_wp2_with (go_at_call 34; refine ctl.mono ?_; rintro e w' ⟨rfl, e2⟩; subst w')
    refine cta.mono ?_
    rintro e w1 (⟨h, _⟩ | ⟨_, bm, m, rfl, M1, hm, hb1⟩)
    · cases h
    have hE := HE.out; have hS := HS.out
    clear HE HS cta ctl
    by_cases ht : 4294967295 ≤ topM R
    · have hti : (4294967295 : Int) ≤ (topM R : Int) := by omega
      rw [if_pos ht] at hE
      go_wp2_with fail
      go_ret2
      exact openS_err 37 hE (by decide) hb1
    · have hti : ¬ (4294967295 : Int) ≤ (topM R : Int) := by omega
      rw [if_neg ht] at hE
      unfold openR at hS
      generalize topM R = T at *
      have hwT : IntKind.u64.wrap ((T : Int) + 1) = (T : Int) + 1 := IntWalk.u64_in _ ⟨by omega, by omega⟩
      have hOL : ∀ l u ep k, recordM R u l.length ep = none → openLoop R k l u ep = (l, u) := fun l u ep k => openLoop_last R k l u ep
      obtain ⟨Z, hZ⟩ : ∃ Z, openLoop R (R.length + 1) [] 0 0 = Z := ⟨_, rfl⟩
      rw [hZ] at hS
      have HE := Go.Lib.hid hE; have HS := Go.Lib.hid hS; have HZ := Go.Lib.hid hZ; have HOL := Go.Lib.hid hOL; have HT := Go.Lib.hid ht
      clear hE hS hZ hOL ht
      have hle1 := hb1.size
      clear hti
      have hti : decide ((4294967295 : Int) ≤ (T : Int)) = false := by have := HT.out; simp; omega
      go_wp2_with fail
      have rowS : Rw (w1.alloc (.cells #[.pointer (some ⟨p, 0, none⟩), .int .i64 (fr : Int), .int .i64 (nn : Int), .int .u64 ((T : Int) + 1), .slice none 0 0, .int .i64 0, .int .i64 0, .int .i64 0, .int .i64 0] 89)) w1.heap.size [.pointer (some ⟨p, 0, none⟩), .int .i64 (fr : Int), .int .i64 (nn : Int), .int .u64 ((T : Int) + 1), .slice none 0 0, .int .i64 0, .int .i64 0, .int .i64 0, .int .i64 0] 89 := NB.rw_new w1 _ 89 rfl
      have M2 := M1.below (oneB w1 (.cells #[.pointer (some ⟨p, 0, none⟩), .int .i64 (fr : Int), .int .i64 (nn : Int), .int .u64 ((T : Int) + 1), .slice none 0 0, .int .i64 0, .int .i64 0, .int .i64 0, .int .i64 0] 89))
      have B2 := NB.bel hb1 (oneB w1 (.cells #[.pointer (some ⟨p, 0, none⟩), .int .i64 (fr : Int), .int .i64 (nn : Int), .int .u64 ((T : Int) + 1), .slice none 0 0, .int .i64 0, .int .i64 0, .int .i64 0, .int .i64 0] 89)) hb1.size
      have B0 := oneB w1 (.cells #[.pointer (some ⟨p, 0, none⟩), .int .i64 (fr : Int), .int .i64 (nn : Int), .int .u64 ((T : Int) + 1), .slice none 0 0, .int .i64 0, .int .i64 0, .int .i64 0, .int .i64 0] 89)
      clear M2 hb1
      generalize w1.alloc (.cells #[.pointer (some ⟨p, 0, none⟩), .int .i64 (fr : Int), .int .i64 (nn : Int), .int .u64 ((T : Int) + 1), .slice none 0 0, .int .i64 0, .int .i64 0, .int .i64 0, .int .i64 0] 89) = w2 at *
      generalize hqe : w1.heap.size = q at *
      have HQE := Go.Lib.hid hqe; clear hqe
      have J0 : IsSg w2 w.heap.size q p (.slice none 0 0) [] ⟨fr, nn, T + 1, [], 0, 0, 0, 0⟩ :=
        { row := rowS, own := World.ownsRow_nil _ _ _ _, rd := (by intro x hx; cases hx), lo := (by intro x hx; cases hx), l := rfl, ge := hle1, qo := (by intro h; cases h), frm := (by show fr ≤ 65536; omega), n := (by show nn ≤ 65536; omega), used := Nat.zero_le _, len := Nat.zero_le _, epoch := (by have := HT.out; show T + 1 ≤ 4294967295; omega), sure := Nat.zero_le _, gone := Nat.zero_le _ }
      clear rowS hwT
      go_loopw [12] (fun i wr => ∃ (l : List (List UInt8)) (used ep k : Nat) (v : Value) (its : List Itm), i = .int .u64 (ep : Int) ∧ ep < 18446744073709551616 ∧ IsSg wr w.heap.size q p v its ⟨fr, nn, T + 1, l, used, 0, 0, 0⟩ ∧ Below q w1 wr ∧ (∀ k, v.ownBlock = some k → q < k) ∧ Below w.heap.size w wr ∧ openLoop R k l used ep = Z ∧ nn + 1 ≤ used + k) (fun i wr => nn - usedAt q wr)
      case atStart => exact ⟨[], 0, 0, R.length + 1, _, [], rfl, by omega, J0, B0, (fun k h => by cases h), B2, HZ.out, by omega⟩
      case round =>
        clear J0 B0 B2 HZ
        obtain ⟨l, used, ep, k, v, its, rfl, hep, J, BQ, hvq, B, hk, hk2⟩ := hrel
        have M := M1.below (w' := wr) (by rw [HQE.out]; exact BQ)
        have HU := Go.Lib.hid J.usedAt
        have hus : used ≤ nn := J.used
        have hll : l.length ≤ used := J.len
        have hits : its.length = l.length := J.size
        obtain ⟨a0, c0, rfl, _⟩ := J.slice
        have HVQ := Go.Lib.hid hvq; clear hvq
        have hcv : IntKind.u64.wrap ((l.length : Nat) : Int) = ((l.length : Nat) : Int) := IntWalk.u64_in _ ⟨by omega, by omega⟩
        cases hq : recordM R used l.length ep with
        | none =>
          have hz := HOL.out l used ep k hq
          rw [hk] at hz
          subst hz
          go_wp2_with fail
          refine NB.wp_region_m (by kernel_rfl) ?_
          have J2 := J.below (dB wr)
          have M2 := M.below (dB wr)
          have BQ2 : Below q w1 wr.drew := NB.bel BQ (dB wr) (Nat.le_of_lt J.row.lt)
          have B2 : Below w.heap.size w wr.drew := NB.bel B (dB wr) B.size
          clear J M B BQ
          have hlt2 : wr.heap.size = wr.drew.heap.size := rfl
          generalize wr.drew = v2 at *
          have M2' : MapK v2 bm m R R.length := by rw [hRn]; exact M2
          clear hlt2
          have c4 := J2.cellv 4 _ rfl
          have c5 := J2.cellv 5 _ rfl
          refine NB.any_p 0 rfl (by kernel_rfl) (fun K hK => ?_); go_simp; refine hK _ ?_; clear hK K
          refine NB.any_p 1 rfl (by kernel_rfl) (fun K hK => ?_); go_simp; refine hK _ ?_; clear hK K
          refine NB.any_p 2 rfl (by kernel_rfl) (fun K hK => ?_); go_simp; refine hK _ ?_; clear hK K
          refine NB.any_p 3 rfl (by kernel_rfl) (fun K hK => ?_); go_simp; refine hK _ ?_; clear hK K
          refine NB.any_r 4 rfl (by kernel_rfl) rfl _ (fun w' hw' => NB.run_op_load rfl rfl Try.underlying3 rfl (c5) hw') (fun K hK => ?_); go_simp; refine hK _ ?_; clear hK K
          refine NB.any_p 5 rfl (by kernel_rfl) (fun K hK => ?_); go_simp; refine hK _ ?_; clear hK K
          refine NB.any_p 6 rfl (by kernel_rfl) (fun K hK => ?_); go_simp; refine hK _ ?_; clear hK K
          refine NB.any_p 7 rfl (by kernel_rfl) (fun K hK => ?_); go_simp; refine hK _ ?_; clear hK K
          refine NB.any_r 8 rfl (by kernel_rfl) rfl _ (fun w' hw' => NB.run_op_load rfl rfl Try.underlying44 rfl (c4) hw') (fun K hK => ?_); go_simp; refine hK _ ?_; clear hK K
          refine NB.any_p 9 rfl (by kernel_rfl) (fun K hK => ?_); go_simp; refine hK _ ?_; clear hK K
          refine NB.any_p 10 rfl (by kernel_rfl) (fun K hK => ?_); go_simp; refine hK _ ?_; clear hK K
          refine NB.any_p 11 rfl (by kernel_rfl) (fun K hK => ?_); go_simp; refine hK _ ?_; clear hK K
          refine NB.any_e 12 rfl (by kernel_rfl) (fun K hK => ?_); unfold NB.moves; go_simp; refine (record_any _ _ _ R used l.length ep M2' (by omega) (by omega) (by omega) (by omega)).mono ?_; rw [hq]; rintro e w3 ⟨rfl, hb3⟩; refine ⟨_, rfl, hb3, hK _ _ ?_⟩; clear hK K
          refine NB.any_p 13 rfl (by kernel_rfl) (fun K hK => ?_); go_simp; refine hK _ ?_; clear hK K
          refine NB.any_p 14 rfl (by kernel_rfl) (fun K hK => ?_); go_simp; refine hK _ ?_; clear hK K
          refine NB.any_p 15 rfl (by kernel_rfl) (fun K hK => ?_); go_simp; refine hK _ ?_; clear hK K
          refine NB.any_p 16 rfl (by kernel_rfl) (fun K hK => ?_); go_simp; refine hK _ ?_; clear hK K
          refine NB.any_p 17 rfl (by kernel_rfl) (fun K hK => ?_); go_simp; refine hK _ ?_; clear hK K
          refine NB.any_p 18 rfl (by kernel_rfl) (fun K hK => ?_); go_simp; refine hK _ ?_; clear hK K
          refine NB.any_p 19 rfl (by kernel_rfl) (fun K hK => ?_); go_simp; refine hK _ ?_; clear hK K
          refine NB.any_end (by kernel_rfl) ?_
          have J3 := J2.below hb3
          have B3 := NB.bel B2 hb3 B2.size
          have c4 := J3.cellv 4 _ rfl
          have c6 := J3.cellv 6 _ rfl
          have f6 := J3.free 6
          obtain ⟨K1, K2⟩ := J3.field 6 (.int .i64 (l.length : Int)) ⟨fr, nn, T + 1, l, used, l.length, 0, 0⟩ rfl rfl J3.frm J3.n J3.used J3.len J3.epoch (Nat.le_refl _) (Nat.zero_le _)
          have BF := B3.trans (K2.belowB B3.size (by rintro k rfl; exact J3.ge))
          have HK1 := Go.Lib.hid K1; have HBF := Go.Lib.hid BF
          clear K1 K2 BF J2 B2 B3 J3 M2 M2' BQ2
          go_wp2_with fail
          go_ret2
          exact openS_ok HE.out HS.out ⟨_, its, HK1.out, rfl⟩ HBF.out
        | some rr =>
          obtain ⟨b, pn, x⟩ := rr
          obtain ⟨p1, p2, p3, p4, f, hf, p5, p6, _, _, hg⟩ := record_in hq
          have hbl := gath_len _ _ _ hg
          have hxl : x < 4294967296 := by
            obtain ⟨T', _, _, hT'⟩ := lk_num hf
            rw [← p5, hT']; exact num4_lt _
          have hmore : ∀ k, openLoop R (k + 1) l used ep = openLoop R k (l ++ [b]) (used + pn) x := fun k => openLoop_more R k l used ep pn x b hq
          obtain ⟨k, rfl⟩ : ∃ k', k = k' + 1 := ⟨k - 1, by omega⟩
          rw [hmore] at hk
          have HK := Go.Lib.hid hk; have HF := Go.Lib.hid hf; have HP6 := Go.Lib.hid p6
          clear hmore hk hf p5 p6 hg HOL
          go_wp2_with fail
          refine NB.wp_region_m (by kernel_rfl) ?_
          have J2 := J.below (dB wr)
          have M2 := M.below (dB wr)
          have BQ2 : Below q w1 wr.drew := NB.bel BQ (dB wr) (Nat.le_of_lt J.row.lt)
          have B2 : Below w.heap.size w wr.drew := NB.bel B (dB wr) B.size
          clear J M B BQ
          have hlt2 : wr.heap.size = wr.drew.heap.size := rfl
          generalize wr.drew = v2 at *
          have M2' : MapK v2 bm m R R.length := by rw [hRn]; exact M2
          clear hlt2
          have c4 := J2.cellv 4 _ rfl
          have c5 := J2.cellv 5 _ rfl
          refine NB.any_p 0 rfl (by kernel_rfl) (fun K hK => ?_); go_simp; refine hK _ ?_; clear hK K
          refine NB.any_p 1 rfl (by kernel_rfl) (fun K hK => ?_); go_simp; refine hK _ ?_; clear hK K
          refine NB.any_p 2 rfl (by kernel_rfl) (fun K hK => ?_); go_simp; refine hK _ ?_; clear hK K
          refine NB.any_p 3 rfl (by kernel_rfl) (fun K hK => ?_); go_simp; refine hK _ ?_; clear hK K
          refine NB.any_r 4 rfl (by kernel_rfl) rfl _ (fun w' hw' => NB.run_op_load rfl rfl Try.underlying3 rfl (c5) hw') (fun K hK => ?_); go_simp; refine hK _ ?_; clear hK K
          refine NB.any_p 5 rfl (by kernel_rfl) (fun K hK => ?_); go_simp; refine hK _ ?_; clear hK K
          refine NB.any_p 6 rfl (by kernel_rfl) (fun K hK => ?_); go_simp; refine hK _ ?_; clear hK K
          refine NB.any_p 7 rfl (by kernel_rfl) (fun K hK => ?_); go_simp; refine hK _ ?_; clear hK K
          refine NB.any_r 8 rfl (by kernel_rfl) rfl _ (fun w' hw' => NB.run_op_load rfl rfl Try.underlying44 rfl (c4) hw') (fun K hK => ?_); go_simp; refine hK _ ?_; clear hK K
          refine NB.any_p 9 rfl (by kernel_rfl) (fun K hK => ?_); go_simp; refine hK _ ?_; clear hK K
          refine NB.any_p 10 rfl (by kernel_rfl) (fun K hK => ?_); go_simp; refine hK _ ?_; clear hK K
          refine NB.any_p 11 rfl (by kernel_rfl) (fun K hK => ?_); go_simp; refine hK _ ?_; clear hK K
          refine NB.any_e 12 rfl (by kernel_rfl) (fun K hK => ?_); unfold NB.moves; go_simp; refine (record_any _ _ _ R used l.length ep M2' (by omega) (by omega) (by omega) (by omega)).mono ?_; rw [hq]; rintro e w3 ⟨v3, rfl, ho3, hb3⟩; obtain ⟨a, c, rfl, hr3, hge3, _⟩ := NB.rd_of_own ho3; refine ⟨_, rfl, hb3, hK _ _ ?_⟩; clear hK K
          refine NB.any_p 13 rfl (by kernel_rfl) (fun K hK => ?_); go_simp; refine hK _ ?_; clear hK K
          refine NB.any_p 14 rfl (by kernel_rfl) (fun K hK => ?_); go_simp; refine hK _ ?_; clear hK K
          refine NB.any_p 15 rfl (by kernel_rfl) (fun K hK => ?_); go_simp; refine hK _ ?_; clear hK K
          refine NB.any_p 16 rfl (by kernel_rfl) (fun K hK => ?_); go_simp; refine hK _ ?_; clear hK K
          refine NB.any_p 17 rfl (by kernel_rfl) (fun K hK => ?_); go_simp; refine hK _ ?_; clear hK K
          refine NB.any_p 18 rfl (by kernel_rfl) (fun K hK => ?_); go_simp; refine hK _ ?_; clear hK K
          refine NB.any_p 19 rfl (by kernel_rfl) (fun K hK => ?_); go_simp; refine hK _ ?_; clear hK K
          refine NB.any_end (by kernel_rfl) ?_
          have J3 := J2.below hb3
          have B3 := NB.bel B2 hb3 B2.size
          have BQ3 := NB.bel BQ2 hb3 (Nat.le_of_lt J2.row.lt)
          have M3 := M2.below hb3
          have hqlt := J2.row.lt
          have hown2 := J2.own.lt
          have hlo3 : ∀ b' o', a = some ⟨b', o', none⟩ → b ≠ [] → w.heap.size ≤ b' ∧ b' ≠ q ∧ (Value.slice a0 l.length c0).ownBlock ≠ some b' := fun b' o' ha _ => by
            have h5 := (hge3 b' o' ha).1
            have := B2.size
            refine ⟨by omega, by omega, fun e => ?_⟩
            have := (hown2 b' e).2
            omega
          have hwu : IntKind.i64.wrap ((used : Int) + (pn : Int)) = ((used + pn : Nat) : Int) := by rw [IntWalk.i64_in _ ⟨by omega, by omega⟩]; omega
          have hwpn : I64 (used : Int) := i64_nat (by omega)
          obtain ⟨fm, hf0, hf2⟩ := M3
          have hfv := hf2 used
          rw [if_pos (by omega), HF.out] at hfv
          obtain ⟨xa, xn, xc, hfu, _⟩ := hfv
          unfold blkV at hfu
          rw [HP6.out] at hfu
          clear J2 M2 M2' hqlt hown2 B2 BQ2 hge3 hcv hf2
          go_wp2_with fail
          refine NB.wp_region_q [8, 24, 27] 8 (fun w' => w'.cell? ⟨q, 5, none⟩ = some (.int .i64 (used : Int)) ∧ MapI Try.prog 3 w' bm m fm) (by kernel_rfl) ?_
          have J4 := J3.below (dB w3)
          have hf1 : MapI Try.prog 3 w3.drew bm m fm := hf0.keep rfl
          have hr4 : NB.RdB w3.drew a b.length c b := Rd.below hr3 (dB w3)
          have B4 : Below w.heap.size w w3.drew := NB.bel B3 (dB w3) B3.size
          have BQ4 : Below q w1 w3.drew := NB.bel BQ3 (dB w3) (Nat.le_of_lt J3.row.lt)
          clear J3 hf0 hr3 B3 BQ3
          generalize w3.drew = v4 at *
          have c4 := J4.cellv 4 _ rfl
          have c5 := J4.cellv 5 _ rfl
          have hst5 : ∀ x y : World, x.cell? ⟨q, 5, none⟩ = some (.int .i64 (used : Int)) → Below x.heap.size x y → y.cell? ⟨q, 5, none⟩ = some (.int .i64 (used : Int)) := fun x y hx hy => (Below.cell hy (World.block_lt_of_cell? _ _ hx)).trans hx
          have hstM : ∀ x y : World, MapI Try.prog 3 x bm m fm → Below x.heap.size x y → MapI Try.prog 3 y bm m fm := fun x y hx hy => hx.keep (hy.block _ hx.lt)
          refine NB.q_p 0 rfl (by kernel_rfl) (fun K hK => ?_); go_simp; refine hK _ ?_; clear hK K
          refine NB.q_p 1 rfl (by kernel_rfl) (fun K hK => ?_); go_simp; refine hK _ ?_; clear hK K
          refine NB.q_p 2 rfl (by kernel_rfl) (fun K hK => ?_); go_simp; refine hK _ ?_; clear hK K
          refine NB.q_p 3 rfl (by kernel_rfl) (fun K hK => ?_); go_simp; refine hK _ ?_; clear hK K
          refine NB.q_p 4 rfl (by kernel_rfl) (fun K hK => ?_); go_simp; refine hK _ ?_; clear hK K
          refine NB.q_r 5 [8, 22, 23, 24, 25, 26, 27, 28] rfl (by kernel_rfl) (by kernel_rfl) rfl _ (fun w' hw' => NB.run_op_load rfl rfl Try.underlying44 rfl (c4) hw') (fun K hK => ?_); go_simp; refine hK _ ?_; clear hK K
          refine NB.q_p 6 rfl (by kernel_rfl) (fun K hK => ?_); go_simp; refine hK _ ?_; clear hK K
          refine NB.q_p 9 rfl (by kernel_rfl) (fun K hK => ?_); go_simp; refine hK _ ?_; clear hK K
          refine NB.q_p 10 rfl (by kernel_rfl) (fun K hK => ?_); go_simp; refine hK _ ?_; clear hK K
          refine NB.q_p 11 rfl (by kernel_rfl) (fun K hK => ?_); go_simp; refine hK _ ?_; clear hK K
          refine NB.q_a 12 [20, 22, 23, 24, 25, 26, 27, 28] rfl (by kernel_rfl) (by kernel_rfl) rfl _ (fun w' => w'.cell? ⟨q, 5, none⟩ = some (.int .i64 (used : Int))) (fun x h => h.1) (c5) (hst5) (fun w' hw' => NB.run_op_load rfl rfl Try.underlying3 rfl hw' (Below.refl _ w')) (fun K hK => ?_); go_simp; refine hK _ ?_; clear hK K
          refine NB.q_p 13 rfl (by kernel_rfl) (fun K hK => ?_); go_simp; refine hK _ ?_; clear hK K
          refine NB.q_p 14 rfl (by kernel_rfl) (fun K hK => ?_); go_simp; refine hK _ ?_; clear hK K
          refine NB.q_p 15 rfl (by kernel_rfl) (fun K hK => ?_); go_simp; refine hK _ ?_; clear hK K
          refine NB.q_p 16 rfl (by kernel_rfl) (fun K hK => ?_); go_simp; refine hK _ ?_; clear hK K
          refine NB.q_a 17 [18, 19, 20, 22, 23, 24, 25, 26, 27, 28] rfl (by kernel_rfl) (by kernel_rfl) rfl _ (fun w' => w'.cell? ⟨q, 5, none⟩ = some (.int .i64 (used : Int))) (fun x h => h.1) (c5) (hst5) (fun w' hw' => NB.run_op_load rfl rfl Try.underlying3 rfl hw' (Below.refl _ w')) (fun K hK => ?_); go_simp; refine hK _ ?_; clear hK K
          refine NB.q_a 18 [19, 20, 22, 23, 24, 25, 26, 27, 28] rfl (by kernel_rfl) (by kernel_rfl) rfl _ (fun w' => MapI Try.prog 3 w' bm m fm) (fun x h => h.2) (hf1) (hstM) (fun w' hw' => NB.run_op_look1_i keyB Try.underlying85 rfl rfl rfl hw' (i64_nat (by omega))) (fun K hK => ?_); go_simp; refine hK _ ?_; clear hK K
          refine NB.q_p 19 rfl (by kernel_rfl) (fun K hK => ?_); go_simp; refine ⟨.int .i64 (pn : Int), fun w' => by kernel_rfl, hK _ ?_⟩; clear hK K
          refine NB.q_p 20 rfl (by kernel_rfl) (fun K hK => ?_); go_simp; refine hK _ ?_; clear hK K
          refine NB.q_p 21 rfl (by kernel_rfl) (fun K hK => ?_); go_simp; refine hK _ ?_; clear hK K
          refine NB.q_e 7 rfl (by kernel_rfl) (by kernel_rfl) (fun K hK => ?_); unfold NB.tmoves; go_simp; refine ⟨(Below.refl _ _).alloc (Nat.le_refl _) _, hK _ _ ?_⟩; clear hK K
          refine NB.q_w 8 rfl (by kernel_rfl) (by kernel_rfl) rfl (fun Q' hK => ?_)
          have own5 := NB.own_keep J4.own (oneB v4 (.cells #[.slice a b.length c] 22))
          refine NB.wpList_append_at rfl (.tmp 93) (.tmp 95) 44 rfl w.heap.size slTL _ its.length (itV its) rfl own5 _ 1 1 [.slice a b.length c] rfl (NB.rd_new v4 #[.slice a b.length c] 22 1 rfl (by unfold maxLen; omega) rfl) (by simp [Value.oneCell']) (by omega) (by unfold maxLen; omega) (by have := B4.size; simp; omega) ?_
          intro v' w' ho hgr hvb
          have happ := J4.app (x := ⟨a, c, b⟩) (n := pn) hgr ho hvb hr4 hlo3 (by show used + pn ≤ nn; omega) p1
          have hkA : Kp (fun k => (Value.slice a0 l.length c0).ownBlock = some k) v4 w' := ((Kp.refl _ v4).alloc _).grown hgr (fun k h => .inl h)
          have row5 := J4.row.keep hkA J4.qo
          have d5 := row5.cell 5 _ rfl
          have dm : MapI Try.prog 3 w' bm m fm := hf1.keep ((hgr.block bm (Nat.lt_of_lt_of_le hf1.lt (oneB v4 _).size) (fun e => by
            obtain ⟨D', ⟨es, clock, hh, _⟩, _⟩ := hf1
            rcases J4.own.2 with ⟨hve, _⟩ | ⟨g', cap, cur, hve, _, hg', _⟩
            · rw [hve] at e; cases e
            · rw [hve] at e; cases e; rw [hh] at hg'; cases hg')).trans ((oneB v4 _).block _ hf1.lt))
          obtain ⟨a', c', rfl, _⟩ := NB.rd_of_own ho
          rw [hits] at happ hvb
          have hcu : ((used + pn : Nat) : Int) = (used : Int) + (pn : Int) := by omega
          simp only [hcu] at happ
          have hvq' : ∀ k, (Value.slice a' (l.length + 1) c').ownBlock = some k → q < k := fun k e => (hvb k e).elim (HVQ.out k) (fun h => by have := J4.row.lt; simp at h; omega)
          have HVQ' := Go.Lib.hid hvq'; clear hvq' hcu
          have d4 := row5.cell 4 _ rfl
          have f4 := row5.free 4
          have e5 := (row5.set 4 (.slice a' (l.length + 1) c')).cell 5 _ rfl
          have g5 := (row5.set 4 (.slice a' (l.length + 1) c')).free 5
          have HAPP := Go.Lib.hid happ
          refine hK _ _ ⟨fun _ => ⟨d5, dm⟩, ?_⟩
          clear hK Q' happ own5 row5 hkA ho hgr hvb
          refine NB.q_p 22 rfl (by kernel_rfl) (fun K hK => ?_); go_simp; refine hK _ ?_; clear hK K
          refine NB.q_p 23 rfl (by kernel_rfl) (fun K hK => ?_); go_simp; refine hK _ ?_; clear hK K
          refine NB.q_w 24 rfl (by kernel_rfl) (by kernel_rfl) rfl (fun Q' hK => ?_)
          go_wp2_with fail
          refine NB.q_p 25 rfl (by kernel_rfl) (fun K hK => ?_); go_simp; refine hK _ ?_; clear hK K
          refine NB.q_p 26 rfl (by kernel_rfl) (fun K hK => ?_); go_simp; refine hK _ ?_; clear hK K
          refine NB.q_w 27 rfl (by kernel_rfl) (by kernel_rfl) rfl (fun Q' hK => ?_)
          go_wp2_with fail
          refine ⟨fun h => (by cases h), ?_⟩
          refine NB.q_p 28 rfl (by kernel_rfl) (fun K hK => ?_); go_simp; refine hK _ ?_; clear hK K
          refine NB.q_end (by kernel_rfl) ?_
          go_wp2_with fail
          obtain ⟨K1, K2⟩ := HAPP.out
          have BF := B4.trans (K2.belowB B4.size (by rintro k (rfl | h); exact J4.ge; exact (J4.own.lt k h).1))
          have BQF := BQ4.trans (K2.belowB (Nat.le_of_lt J4.row.lt) (by rintro k (rfl | h); exact Nat.le_refl _; exact Nat.le_of_lt (HVQ.out k h)))
          go_roundw
          case rel => exact ⟨l ++ [b], used + pn, x, k, _, its ++ [⟨a, c, b⟩], rfl, by omega, K1, BQF, HVQ'.out, BF, HK.out, by omega⟩
          case measure => rw [K1.usedAt, HU.out]; show nn - (used + pn) < nn - used; omega
end Go.Proofs.Ytjfidhjnbcmhfaa
