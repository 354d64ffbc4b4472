/- A replica's Store, walked: the way through. A replica's Store, joined, and its Add, walked. A replica's Lens, walked. A replica's look, walked. A replica that is being opened: one segment more. A replica's Open, walked. A replica's Open, walked: the loop. A replica's Open, joined. -/
import Derived.Test.YtjfidhjnbcmhfaaRpx1
import Derived.Test.YtjfidhjnbcmhfaaVcu
import Derived.Test.YtjfidhjnbcmhfaaDdx
import Derived.Test.YtjfidhjnbcmhfaaSgx1
namespace Go.Proofs.Ytjfidhjnbcmhfaa
open Go.RowKit
open Go.NB (Rd Dk Kp Stp Off Dis val I64 Rw oneB dB rw_new B64)

theorem putM_len {x y : Nat} {b : List UInt8} (hx : B64 x) (hy : B64 y) : (putM (x, y, b)).1.length ≤ 100000 := by
  unfold putM
  split
  · simp
  · rename_i h
    simp only at h
    have h1 := NB.encU_len hx
    have h2 := NB.encU_len hy
    have h3 := NB.encU_len (show b.length < 18446744073709551616 by omega)
    simp only [NB.encB, List.length_append]
    omega
section
variable {X : Nat → Prop} {w0 w : World} {r p : Nat} {D : Dk} {R : Rp}
set_option maxRecDepth 100000 in
set_option maxHeartbeats 8000000 in
theorem rpst_go (h : HasRp X w0 w r p D R) (i j : Nat) (hi : i < R.l.length) (c s : Nat) (hc : B64 c) (hs : B64 s) (a : Option Addr) (n k : Nat) (body : List UInt8) (hr : NB.RdB w a n k body) (he : R.e = 0) (ho : i ≠ R.own) (hwn : D.waits.length ≤ 900000) (hll : (R.seg i).l.length ≤ 1000000) (hbl : ∀ b ∈ (R.seg i).l, b.length ≤ 100000)
    (hsw : ∀ b, (appM D (R.seg i) b).1.waits.length ≤ 1000000) :
    Calls Try.prog 11 #[.pointer (some ⟨r, 0, none⟩), .int .i64 (i : Int), .int .i64 (j : Int), .agg #[.int .u64 (c : Int), .int .u64 (s : Int), .slice a n k]] w
      (StoR X w0 w r p (if (putM (c, s, body)).2 ≠ 0 then (D, R, (putM (c, s, body)).2) else if ((R.seg i).l.length : Int) < (j : Int) then (D, R, 36)
        else if (j : Int) = ((R.seg i).l.length : Int) then ((apnM D R i (putM (c, s, body)).1).1, (apnM D R i (putM (c, s, body)).1).2.1, (apnM D R i (putM (c, s, body)).1).2.2.2)
        else if (redM (R.seg i) (j : Int)).1 ≠ (putM (c, s, body)).1 then (D, R, 33) else (D, R, 0))) := by
  have ob := oneB w (.cells #[.int .u64 (c : Int), .int .u64 (s : Int), .slice a n k] 34)
  have RE : Rw (w.alloc (.cells #[.int .u64 (c : Int), .int .u64 (s : Int), .slice a n k] 34)) w.heap.size [.int .u64 (c : Int), .int .u64 (s : Int), .slice a n k] 34 := rw_new w [.int .u64 (c : Int), .int .u64 (s : Int), .slice a n k] _ rfl
  have m0 := RE.cell 0 _ rfl
  have m1 := RE.cell 1 _ rfl
  have m2 := RE.cell 2 _ rfl
  have h1 := h.below ob
  have hup := rup_any h1
  rw [he] at hup
  have HUP := Go.Lib.hid hup
  obtain ⟨t, q, F, G, Ft, hh⟩ := h
  have hi4 : i < 4 := by have := hh.len; have := hh.many.2; omega
  have hi4i : (i : Int) < 4 := by omega
  have hm : i < R.many := by have := hh.len; omega
  have g1 : ¬ (i : Int) < 0 := by omega
  have g2 : ¬ (R.many : Int) ≤ (i : Int) := by omega
  have g2n : ¬ R.many ≤ i := by omega
  have d2 := decide_eq_false g2
  have d2n := decide_eq_false g2n
  have d3 : ((i : Int) == (R.own : Int)) = false := NB.ne_int ho
  have d4 : ¬ (j : Int) < 0 := by omega
  have hh1 := hh.below ob
  have c4 := hh1.box.cell 4 _ rfl
  have c5 := hh1.box.cell 5 _ rfl
  obtain ⟨B, ep, hP⟩ : ∃ B ep, putM (c, s, body) = (B, ep) := ⟨_, _, rfl⟩
  have hpt := dput_any _ c s a n k body hc hs (hr.below ob)
  rw [hP] at hpt ⊢
  simp only
  have HPT := Go.Lib.hid hpt
  have HH := Go.Lib.hid hh; have HH1 := Go.Lib.hid hh1; have HOB := Go.Lib.hid ob
  have hBl : B.length ≤ 100000 := by
    have h2 : B = (putM (c, s, body)).1 := by rw [hP]
    rw [h2]; exact putM_len hc hs
  clear hup hpt hP hh hh1 h1 hr
  obtain ⟨Q, hQ⟩ : ∃ Q : Dk × Rp × Int, (if ep ≠ 0 then (D, R, ep) else if ((R.seg i).l.length : Int) < (j : Int) then (D, R, 36) else if (j : Int) = ((R.seg i).l.length : Int) then ((apnM D R i B).1, (apnM D R i B).2.1, (apnM D R i B).2.2.2) else if (redM (R.seg i) (j : Int)).1 ≠ B then (D, R, 33) else (D, R, 0)) = Q := ⟨_, rfl⟩
  rw [hQ]
  have HQ := Go.Lib.hid hQ
  clear hQ he
  go_enter Try.func11, Try.ntmps11
  go_wp2_with (first
    | (go_at_call 23; refine HUP.out.mono ?_; rintro e w1 ⟨rfl, e2⟩; subst w1))
  generalize w.alloc (.cells #[.int .u64 (c : Int), .int .u64 (s : Int), .slice a n k] 34) = w1 at *
  go_at_call 24
  refine HPT.out.mono ?_
  rintro e w2 ⟨a2, c2, rfl, ho2, hb2⟩
  have hh2 := HH1.out.below hb2
  have cq := rp_at hh2.box i hi4 hi
  have B2 := bel HOB.out hb2 HOB.out.size
  clear c4 c5 m0 m1 m2 RE
  by_cases hep : ep = 0
  case neg =>
    have hpb : (ep == (0 : Int)) = false := beq_eq_false_iff_ne.2 hep
    clear cq
    go_wp2_with fail
    go_ret
    rw [← HQ.out, if_pos hep]
    exact sto_same ⟨t, q, F, G, Ft, HH.out⟩ B2 ep
  subst hep
  have hlen := qs_len w0 w2 (q i) p D (R.seg i) (hh2.sdh i hi).sd
  have HLEN := Go.Lib.hid hlen
  have hq := HQ.out
  rw [if_neg (fun h => h rfl)] at hq
  have HQ := Go.Lib.hid hq
  clear hlen hq
  go_wp2_with fail
  go_at_call 25
  refine HLEN.out.mono ?_
  rintro e w3 ⟨rfl, e3⟩
  subst w3
  obtain ⟨a2', c2', e2', hrd, hlo2, _⟩ := NB.rd_of_own ho2
  cases e2'
  obtain ⟨LL, hLL⟩ : ∃ LL, (R.seg i).l.length = LL := ⟨_, rfl⟩
  have hq := HQ.out
  rw [hLL] at hq hll
  have HQ := Go.Lib.hid hq
  clear hq ho2
  rw [hLL]
  by_cases h1 : LL < j
  · have e1 : decide (LL < j) = true := decide_eq_true h1
    have e1i : decide ((LL : Int) < (j : Int)) = true := decide_eq_true (by omega)
    clear cq hrd hlo2
    go_wp2_with fail
    go_ret
    rw [← HQ.out, if_pos (by omega)]
    exact sto_same ⟨t, q, F, G, Ft, HH.out⟩ B2 36
  have e1 : decide (LL < j) = false := decide_eq_false h1
  have e1i : decide ((LL : Int) < (j : Int)) = false := decide_eq_false (by omega)
  by_cases h2 : j = LL
  · have e2 : ((j : Int) == (LL : Int)) = true := by simp [h2]
    have e2n : (j == LL) = true := by simp [h2]
    have hY := HH.out.addX (Y := fun k => X k ∨ ∃ o, a2 = some ⟨k, o, none⟩) B2 (fun k hk => hk.elim .inl (fun ⟨o, e⟩ => .inr (.inr (Nat.le_trans HOB.out.size (hlo2 k o e).1)))) (fun k hk => hk.elim (fun hx => Nat.lt_of_lt_of_le (HH.out.xlt k hx) B2.size) (fun ⟨o, e⟩ => (hlo2 k o e).2))
    have hap := rapn_any _ w0 w2 r p D R ⟨t, q, F, G, Ft, hY⟩ i hi a2 B.length c2 B hrd (fun k o e _ => .inl (.inr ⟨o, e⟩)) hwn (by omega) (hsw B)
    obtain ⟨D4, R4, at4, e4, hM⟩ : ∃ D4 R4 at4 e4, apnM D R i B = (D4, R4, at4, e4) := ⟨_, _, _, _, rfl⟩
    have hq := HQ.out
    rw [hM] at hap hq
    rw [if_neg (by omega), if_pos (by omega)] at hq
    have HAP := Go.Lib.hid hap
    have HQ := Go.Lib.hid hq
    have HY := Go.Lib.hid hY
    clear hap hq hY hrd hlo2 hM cq
    go_wp2_with fail
    go_at_call 26
    refine HAP.out.mono ?_
    rintro e w4 ⟨rfl, hR4, K4⟩
    replace hR4 : HasRp (fun k => X k ∨ ∃ o, a2 = some ⟨k, o, none⟩) w0 w4 r p D4 R4 := hR4
    go_wp2_with fail
    go_ret
    rw [← HQ.out]
    exact ⟨rfl, hR4.imp (fun k hx => .inl hx), kp_trans (Kp.of_below B2) (K4.imp (fun k hn hx => hn (.inl hx)))⟩
  have e2 : ((j : Int) == (LL : Int)) = false := NB.ne_int h2
  have e2n : (j == LL) = false := by simp [h2]
  obtain ⟨bs, er, hM⟩ : ∃ bs er, redM (R.seg i) (j : Int) = (bs, er) := ⟨_, _, rfl⟩
  have hrd5 := qh_read _ w0 w2 (q i) p D (R.seg i) (j : Int) (hh2.sdh i hi) hbl
  have hq := HQ.out
  rw [hM] at hrd5 hq
  rw [if_neg (by omega), if_neg (by omega)] at hq
  have HRD := Go.Lib.hid hrd5
  have HQ := Go.Lib.hid hq
  have HBL := Go.Lib.hid hbl
  clear hrd5 hq hM hbl
  go_wp2_with fail
  go_at_call 27
  refine HRD.out.mono ?_
  rintro e w5 ⟨a5, c5, rfl, hr5, _, _, hb5⟩
  replace hr5 : NB.RdB w5 a5 bs.length c5 bs := hr5
  have hrd6 := Rd.below hrd hb5
  have B5 := bel B2 hb5 B2.size
  have heq := equal_any w5 a5 a2 bs.length c5 B.length c2 bs B hr5 hrd6
  clear cq hrd hb5
  by_cases hbe : bs = B
  · have hbb : (bs == B) = true := by simp [hbe]
    rw [hbb] at heq
    have HEQ := Go.Lib.hid heq
    have hq := HQ.out
    rw [if_neg (fun h => h hbe)] at hq
    have HQ := Go.Lib.hid hq
    clear heq hq hbb hbe
    go_wp2_with (first | (go_at_call 28; refine HEQ.out.mono ?_; rintro e w6 ⟨rfl, hb6⟩))
    go_ret
    rw [← HQ.out]
    exact sto_same ⟨t, q, F, G, Ft, HH.out⟩ (bel B5 hb6 B5.size) 0
  · have hbb : (bs == B) = false := by simp [hbe]
    rw [hbb] at heq
    have HEQ := Go.Lib.hid heq
    have hq := HQ.out
    rw [if_pos hbe] at hq
    have HQ := Go.Lib.hid hq
    clear heq hq hbb hbe
    go_wp2_with (first | (go_at_call 28; refine HEQ.out.mono ?_; rintro e w6 ⟨rfl, hb6⟩))
    go_ret
    rw [← HQ.out]
    exact sto_same ⟨t, q, F, G, Ft, HH.out⟩ (bel B5 hb6 B5.size) 33
end
end Go.Proofs.Ytjfidhjnbcmhfaa
namespace Go.Proofs.Ytjfidhjnbcmhfaa
open Go.RowKit
open Go.NB (Rd Dk Kp Stp Off Dis val I64 Rw oneB dB rw_new B64 dknown dat)

theorem apn_tab (D : Dk) (R : Rp) (i : Nat) (b : List UInt8) : (apnM D R i b).2.1.tab = R.tab := by
  unfold apnM
  split
  · rfl
  split
  · rfl
  split
  · rfl
  · rfl
theorem app_at (D : Dk) (S : Sg) (b : List UInt8) : (appM D S b).2.2.1 ≤ S.l.length := by
  unfold appM
  split
  · exact Nat.zero_le _
  split
  · exact Nat.zero_le _
  split
  · exact Nat.zero_le _
  split
  · exact Nat.zero_le _
  · exact Nat.le_refl _
theorem apn_at (D : Dk) (R : Rp) (i : Nat) (b : List UInt8) : (apnM D R i b).2.2.1 ≤ (R.seg i).l.length := by
  unfold apnM
  split
  · exact Nat.zero_le _
  split
  · exact Nat.zero_le _
  split
  · exact Nat.zero_le _
  · exact app_at _ _ _
section
variable {X : Nat → Prop} {w0 w : World} {r p : Nat} {D : Dk} {R : Rp}
theorem rpst_any (h : HasRp X w0 w r p D R) (hfull : R.l.length = R.many) (seg at_ : Int) (c s : Nat) (hc : B64 c) (hs : B64 s) (a : Option Addr) (n k : Nat) (body : List UInt8) (hr : NB.RdB w a n k body) (hwn : D.waits.length ≤ 900000) (hll : ∀ i, (R.seg i).l.length ≤ 1000000) (hbl : ∀ i, ∀ b ∈ (R.seg i).l, b.length ≤ 100000)
    (hsw : ∀ i b, (appM D (R.seg i) b).1.waits.length ≤ 1000000) :
    Calls Try.prog 11 #[.pointer (some ⟨r, 0, none⟩), .int .i64 seg, .int .i64 at_, .agg #[.int .u64 (c : Int), .int .u64 (s : Int), .slice a n k]] w (StoR X w0 w r p (storeM D R seg at_ (c, s, body))) := by
  by_cases he : R.e = 0
  case neg =>
    rw [show storeM D R seg at_ (c, s, body) = (D, R, R.e) by unfold storeM; rw [if_pos he]]
    exact rpst_err h seg at_ c s a n k he
  by_cases hbad : seg < 0 ∨ (R.many : Int) ≤ seg ∨ seg = R.own ∨ at_ < 0
  · rw [show storeM D R seg at_ (c, s, body) = (D, R, 1) by unfold storeM; rw [if_neg (fun h => h he), if_pos hbad]]
    exact rpst_arg h seg at_ c s a n k he hbad
  obtain ⟨i, rfl⟩ := Int.eq_ofNat_of_zero_le (show 0 ≤ seg by omega)
  obtain ⟨j, rfl⟩ := Int.eq_ofNat_of_zero_le (show 0 ≤ at_ by omega)
  have := rpst_go h i j (by omega) c s hc hs a n k body hr he (by omega) hwn (hll i) (hbl i) (hsw i)
  rw [show storeM D R (i : Int) (j : Int) (c, s, body) = _ by unfold storeM; rw [if_neg (fun h => h he), if_neg hbad, Int.toNat_natCast]]
  exact this

/-- What adding leaves. -/
def AddR (X : Nat → Prop) (w0 w : World) (r p : Nat) (s : Dk × Rp × Int × Bool × Int) (e : Ending) (w' : World) : Prop :=
  e = .returned (.tuple #[.int .i64 s.2.2.1, .bool s.2.2.2.1, .int .i64 s.2.2.2.2]) ∧ HasRp X w0 w' r p s.1 s.2.1 ∧ Kp (fun k => ¬ X k) w w'
theorem add_same {w' : World} (h : HasRp X w0 w r p D R) (hb : Below w.heap.size w w') (x : Int) (b : Bool) (y : Int) : AddR X w0 w r p (D, R, x, b, y) (.returned (.tuple #[.int .i64 x, .bool b, .int .i64 y])) w' := ⟨rfl, h.below hb, Kp.of_below hb⟩
set_option maxRecDepth 100000 in
set_option maxHeartbeats 4000000 in
theorem rpad_err (h : HasRp X w0 w r p D R) (c s : Nat) (a : Option Addr) (n k : Nat) (he : R.e ≠ 0) :
    Calls Try.prog 14 #[.pointer (some ⟨r, 0, none⟩), .agg #[.int .u64 (c : Int), .int .u64 (s : Int), .slice a n k]] w (AddR X w0 w r p (D, R, 0, false, R.e)) := by
  have ob := oneB w (.cells #[.int .u64 (c : Int), .int .u64 (s : Int), .slice a n k] 34)
  have h1 := h.below ob
  have hb1 : (R.e == (0 : Int)) = false := beq_eq_false_iff_ne.2 he
  go_enter Try.func14, Try.ntmps14
  go_wp2_with (first | (go_at_call 23; refine (rup_any h1).mono ?_; rintro e w1 ⟨rfl, e2⟩; subst w1))
  refine bodyPost_ret (v := .tuple #[.int .i64 0, .bool false, .int .i64 R.e]) (by simp [results, Try.results14, go_sem]) rfl ?_
  exact add_same h ob 0 false R.e
set_option maxRecDepth 100000 in
set_option maxHeartbeats 8000000 in
theorem rpad_go (h : HasRp X w0 w r p D R) (hfull : R.l.length = R.many) (c s : Nat) (hc : B64 c) (hs : B64 s) (a : Option Addr) (n k : Nat) (body : List UInt8) (hr : NB.RdB w a n k body) (he : R.e = 0) (hwn : D.waits.length ≤ 900000) (hll : (R.seg R.own).l.length ≤ 1000000) (htl : R.tab.length ≤ 1000000)
    (hsw : ∀ b, (appM D (R.seg R.own) b).1.waits.length ≤ 1000000) :
    Calls Try.prog 14 #[.pointer (some ⟨r, 0, none⟩), .agg #[.int .u64 (c : Int), .int .u64 (s : Int), .slice a n k]] w (AddR X w0 w r p (addM D R (c, s, body))) := by
  have ob := oneB w (.cells #[.int .u64 (c : Int), .int .u64 (s : Int), .slice a n k] 34)
  have RE : Rw (w.alloc (.cells #[.int .u64 (c : Int), .int .u64 (s : Int), .slice a n k] 34)) w.heap.size [.int .u64 (c : Int), .int .u64 (s : Int), .slice a n k] 34 := rw_new w [.int .u64 (c : Int), .int .u64 (s : Int), .slice a n k] _ rfl
  have m0 := RE.cell 0 _ rfl
  have m1 := RE.cell 1 _ rfl
  have m2 := RE.cell 2 _ rfl
  have h1 := h.below ob
  have hup := rup_any h1
  rw [he] at hup
  have HUP := Go.Lib.hid hup
  obtain ⟨t, q, F, G, Ft, hh⟩ := h
  have hown := hh.own
  have hh1 := hh.below ob
  obtain ⟨B, ep, hP⟩ : ∃ B ep, putM (c, s, body) = (B, ep) := ⟨_, _, rfl⟩
  have hpt := dput_any _ c s a n k body hc hs (hr.below ob)
  have hBl : B.length ≤ 100000 := by
    have h2 : B = (putM (c, s, body)).1 := by rw [hP]
    rw [h2]; exact putM_len hc hs
  obtain ⟨Q, hQ⟩ : ∃ Q, addM D R (c, s, body) = Q := ⟨_, rfl⟩
  have hmod : Q = if ep ≠ 0 then (D, R, 0, false, ep) else if dknown R.tab c s then (D, R, dat R.tab c s, false, 0) else if R.sealed then (D, R, 0, false, 34)
      else if (apnM D R R.own B).2.2.2 ≠ 0 then ((apnM D R R.own B).1, (apnM D R R.own B).2.1, 0, false, (apnM D R R.own B).2.2.2)
      else ((apnM D R R.own B).1, { (apnM D R R.own B).2.1 with tab := (dnote R.tab c s ((apnM D R R.own B).2.2.1 : Int)).1 }, ((apnM D R R.own B).2.2.1 : Int), true, 0) := by
    rw [← hQ]; unfold addM; rw [if_neg (fun h => h he), hP]
  rw [hP] at hpt
  rw [hQ]
  have HPT := Go.Lib.hid hpt
  have HH := Go.Lib.hid hh; have HH1 := Go.Lib.hid hh1; have HOB := Go.Lib.hid ob; have HQ := Go.Lib.hid hmod; have HRE := Go.Lib.hid RE
  clear hup hpt hP hh hh1 h1 hr hQ hmod he RE
  go_enter Try.func14, Try.ntmps14
  go_wp2_with (first
    | (go_at_call 23; refine HUP.out.mono ?_; rintro e w1 ⟨rfl, e2⟩; subst w1))
  generalize w.alloc (.cells #[.int .u64 (c : Int), .int .u64 (s : Int), .slice a n k] 34) = w1 at *
  go_at_call 24
  refine HPT.out.mono ?_
  rintro e w2 ⟨a2, c2, rfl, ho2, hb2⟩
  have hh2 := HH1.out.below hb2
  have RE2 := HRE.out.below hb2
  have B2 := bel HOB.out hb2 HOB.out.size
  clear m0 m1 m2 HRE
  by_cases hep : ep = 0
  case neg =>
    have hpb : (ep == (0 : Int)) = false := beq_eq_false_iff_ne.2 hep
    go_wp2_with fail
    refine bodyPost_ret (v := .tuple #[.int .i64 0, .bool false, .int .i64 ep]) (by simp [results, Try.results14, go_sem]) rfl ?_
    rw [HQ.out, if_pos hep]
    exact add_same ⟨t, q, F, G, Ft, HH.out⟩ B2 0 false ep
  subst hep
  have hq := HQ.out
  rw [if_neg (fun h => h rfl)] at hq
  have HQ := Go.Lib.hid hq
  clear hq
  go_wp2_with fail
  refine NB.wp_region_m (by kernel_rfl) ?_
  have ho3 := NB.own_keep ho2 (dB w2)
  have hh3 := hh2.below (dB w2)
  have RE3 := RE2.below (dB w2)
  have B3 := bel B2 (dB w2) B2.size
  have hs23 := (dB w2).size
  clear ho2 hh2 RE2 B2
  generalize w2.drew = w3 at *
  have x6 := hh3.box.cell 6 _ rfl
  have m0 := RE3.cell 0 _ rfl
  have m1 := RE3.cell 1 _ rfl
  refine NB.any_p 0 rfl (by kernel_rfl) (fun K hK => ?_); go_simp; refine hK _ ?_; clear hK K
  refine NB.any_p 1 rfl (by kernel_rfl) (fun K hK => ?_); go_simp; refine hK _ ?_; clear hK K
  refine NB.any_p 2 rfl (by kernel_rfl) (fun K hK => ?_); go_simp; refine hK _ ?_; clear hK K
  refine NB.any_r 3 rfl (by kernel_rfl) rfl _ (fun w' hw' => NB.run_op_load rfl rfl Try.underlying57 rfl (x6) hw') (fun K hK => ?_); go_simp; refine hK _ ?_; clear hK K
  refine NB.any_p 4 rfl (by kernel_rfl) (fun K hK => ?_); go_simp; refine hK _ ?_; clear hK K
  refine NB.any_r 5 rfl (by kernel_rfl) rfl _ (fun w' hw' => NB.run_op_load rfl rfl Try.underlying32 rfl (m0) hw') (fun K hK => ?_); go_simp; refine hK _ ?_; clear hK K
  refine NB.any_p 6 rfl (by kernel_rfl) (fun K hK => ?_); go_simp; refine hK _ ?_; clear hK K
  refine NB.any_r 7 rfl (by kernel_rfl) rfl _ (fun w' hw' => NB.run_op_load rfl rfl Try.underlying32 rfl (m1) hw') (fun K hK => ?_); go_simp; refine hK _ ?_; clear hK K
  obtain ⟨baset, hbt, htb⟩ := hh3.tab
  refine NB.any_e 8 rfl (by kernel_rfl) (fun K hK => ?_); unfold NB.moves; go_simp; refine (find_any _ _ _ _ _ c s htb hc hs).mono ?_; rintro e wX ⟨rfl, eX⟩; subst wX; refine ⟨_, rfl, Below.refl _ _, hK _ _ ?_⟩; clear hK K
  refine NB.any_p 9 rfl (by kernel_rfl) (fun K hK => ?_); go_simp; refine hK _ ?_; clear hK K
  refine NB.any_p 10 rfl (by kernel_rfl) (fun K hK => ?_); go_simp; refine hK _ ?_; clear hK K
  refine NB.any_p 11 rfl (by kernel_rfl) (fun K hK => ?_); go_simp; refine hK _ ?_; clear hK K
  refine NB.any_p 12 rfl (by kernel_rfl) (fun K hK => ?_); go_simp; refine hK _ ?_; clear hK K
  refine NB.any_p 13 rfl (by kernel_rfl) (fun K hK => ?_); go_simp; refine hK _ ?_; clear hK K
  refine NB.any_end (by kernel_rfl) ?_
  clear x6 m0 m1 htb
  by_cases hk : dknown R.tab c s = true
  · have hq := HQ.out
    rw [if_pos hk] at hq
    have HQ := Go.Lib.hid hq
    clear hq
    rw [hk]
    go_wp2_with fail
    refine bodyPost_ret (v := .tuple #[.int .i64 (dat R.tab c s), .bool false, .int .i64 0]) (by simp [results, Try.results14, go_sem]) rfl ?_
    rw [HQ.out]
    exact add_same ⟨t, q, F, G, Ft, HH.out⟩ B3 _ false 0
  have hkf : dknown R.tab c s = false := by simpa using hk
  rw [hkf]
  have x7 := hh3.box.cell 7 _ rfl
  by_cases hse : R.sealed = true
  · have hq := HQ.out
    rw [if_neg hk, if_pos hse] at hq
    have HQ := Go.Lib.hid hq
    clear hq
    rw [hse] at x7
    go_wp2_with fail
    refine bodyPost_ret (v := .tuple #[.int .i64 0, .bool false, .int .i64 34]) (by simp [results, Try.results14, go_sem]) rfl ?_
    rw [HQ.out]
    exact add_same ⟨t, q, F, G, Ft, HH.out⟩ B3 0 false 34
  have hsf : R.sealed = false := by simpa using hse
  have hq := HQ.out
  rw [if_neg hk, if_neg hse] at hq
  rw [hsf] at x7
  have x5 := hh3.box.cell 5 _ rfl
  obtain ⟨a2', c2', e2', hrd, hlo2, _⟩ := NB.rd_of_own ho3
  cases e2'
  have hw3 := RE3.lt
  have hY := HH.out.addX (Y := fun k => X k ∨ k = w.heap.size ∨ ∃ o, a2 = some ⟨k, o, none⟩) B3 (fun k hk => by
    rcases hk with hx | e | ⟨o, e⟩
    · exact .inl hx
    · exact .inr (.inr (by omega))
    · exact .inr (.inr (Nat.le_trans HOB.out.size (hlo2 k o e).1))) (fun k hk => by
    rcases hk with hx | e | ⟨o, e⟩
    · exact Nat.lt_of_lt_of_le (HH.out.xlt k hx) B3.size
    · exact e ▸ hw3
    · exact (hlo2 k o e).2)
  have hap := rapn_any _ w0 w3 r p D R ⟨t, q, F, G, Ft, hY⟩ R.own (by omega) a2 B.length c2 B hrd (fun k o e _ => .inl (.inr (.inr ⟨o, e⟩))) hwn (by omega) (hsw B)
  have hta := apn_tab D R R.own B
  have haa := apn_at D R R.own B
  obtain ⟨D4, R4, at4, e4, hM⟩ : ∃ D4 R4 at4 e4, apnM D R R.own B = (D4, R4, at4, e4) := ⟨_, _, _, _, rfl⟩
  rw [hM] at hap hq hta haa
  simp only at hap hq hta haa
  have HAP := Go.Lib.hid hap
  have HQ := Go.Lib.hid hq
  have HTA := Go.Lib.hid hta
  have HHK := Go.Lib.hid hkf
  clear hap hq hY hrd hlo2 hM hta ho3 hk hse
  go_wp2_with fail
  go_at_call 26
  refine HAP.out.mono ?_
  rintro e w4 ⟨rfl, hR4, K4⟩
  replace hR4 : HasRp (fun k => X k ∨ k = w.heap.size ∨ ∃ o, a2 = some ⟨k, o, none⟩) w0 w4 r p D4 R4 := hR4
  have RE4 := RE3.keep K4 (fun hn => hn (.inr (.inl rfl)))
  have K04 := kp_trans (Kp.of_below (F := fun k => ¬ X k) B3) (K4.imp (fun k hn hx => hn (.inl hx)))
  clear x5 x7 hh3 RE3 K4
  by_cases he4 : e4 = 0
  case neg =>
    have heb : (e4 == (0 : Int)) = false := beq_eq_false_iff_ne.2 he4
    go_wp2_with fail
    refine bodyPost_ret (v := .tuple #[.int .i64 0, .bool false, .int .i64 e4]) (by simp [results, Try.results14, go_sem]) rfl ?_
    rw [HQ.out, if_pos he4]
    exact ⟨rfl, hR4.imp (fun k hx => .inl hx), K04⟩
  subst he4
  have hq := HQ.out
  rw [if_neg (fun h => h rfl)] at hq
  have HQ := Go.Lib.hid hq
  clear hq
  have HR4 := Go.Lib.hid hR4; have HK4 := Go.Lib.hid K04
  clear hR4 K04
  go_wp2_with fail
  refine NB.wp_region_t [9] (by kernel_rfl) ?_
  obtain ⟨t', q', F', G', Ft', h4⟩ := HR4.out
  have h5 := h4.below (dB w4)
  have RE5 := RE4.below (dB w4)
  have K05 := kp_trans HK4.out (Kp.of_below (F := fun k => ¬ X k) (dB w4))
  clear h4 RE4
  generalize w4.drew = w5 at *
  have x6 := h5.box.cell 6 _ rfl
  have m0 := RE5.cell 0 _ rfl
  have m1 := RE5.cell 1 _ rfl
  refine NB.t_p 0 rfl (by kernel_rfl) (fun K hK => ?_); go_simp; refine hK _ ?_; clear hK K
  refine NB.t_p 1 rfl (by kernel_rfl) (fun K hK => ?_); go_simp; refine hK _ ?_; clear hK K
  refine NB.t_p 2 rfl (by kernel_rfl) (fun K hK => ?_); go_simp; refine hK _ ?_; clear hK K
  refine NB.t_r 3 [9] rfl (by kernel_rfl) (by kernel_rfl) (by go_simp) _ (fun w' hw' => NB.run_op_load rfl rfl Try.underlying57 rfl (x6) hw') (fun K hK => ?_); go_simp; refine hK _ ?_; clear hK K
  refine NB.t_p 4 rfl (by kernel_rfl) (fun K hK => ?_); go_simp; refine hK _ ?_; clear hK K
  refine NB.t_r 5 [9] rfl (by kernel_rfl) (by kernel_rfl) (by go_simp) _ (fun w' hw' => NB.run_op_load rfl rfl Try.underlying32 rfl (m0) hw') (fun K hK => ?_); go_simp; refine hK _ ?_; clear hK K
  refine NB.t_p 6 rfl (by kernel_rfl) (fun K hK => ?_); go_simp; refine hK _ ?_; clear hK K
  refine NB.t_r 7 [9] rfl (by kernel_rfl) (by kernel_rfl) (by go_simp) _ (fun w' hw' => NB.run_op_load rfl rfl Try.underlying32 rfl (m1) hw') (fun K hK => ?_); go_simp; refine hK _ ?_; clear hK K
  refine NB.t_p 8 rfl (by kernel_rfl) (fun K hK => ?_); go_simp; refine hK _ ?_; clear hK K
  obtain ⟨baset', hbt', htb⟩ := h5.tab
  rw [HTA.out] at htb
  have hnt := note_any w5 baset' t' Ft' R.tab c s (at4 : Int) htb hc hs (WalkArith.wf_i64 (by omega)) htl
  have HNT := Go.Lib.hid hnt
  clear hnt x6 m0 m1
  refine NB.t_w 9 rfl (by kernel_rfl) (by kernel_rfl) rfl (fun Q' hK => ?_)
  go_wp2_with fail
  go_at_call 33
  refine HNT.out.mono ?_
  rintro e w6 ⟨rfl, ht6, s6⟩
  go_wp2_with fail
  have h6 := h5.note hbt' ht6 s6
  have K06 := kp_trans K05 (s6.kp.imp (fun k hf hx => (h5.off k (.inr (.inl hx))).2.2 hf))
  refine NB.t_end (by kernel_rfl) ?_
  go_wp2_with fail
  refine bodyPost_ret (v := .tuple #[.int .i64 (at4 : Int), .bool true, .int .i64 0]) (by simp [results, Try.results14, go_sem]) rfl ?_
  rw [HQ.out]
  exact ⟨rfl, HasRp.imp ⟨t', q', F', G', Ft', h6⟩ (fun k hx => .inl hx), K06⟩
end
end Go.Proofs.Ytjfidhjnbcmhfaa
namespace Go.Proofs.Ytjfidhjnbcmhfaa
open Go.RowKit
open Go.NB (Rd RdU Dk Kp Stp Off Dis val I64 Rw oneB dB rw_new B64 u64v)

def suresM (R : Rp) : List Nat := R.l.map (·.sure)
def lensM (R : Rp) : List Nat := cutN (suresM R)
theorem u_rd (w : World) (x : Nat) {g : Nat} (hg : g = w.heap.size) : Rd 1 (w.alloc (.cells #[.int .u64 (x : Int)] 32)) (some ⟨g, 0, none⟩) 1 1 [.int .u64 (x : Int)] :=
  NB.rd_new w #[.int .u64 (x : Int)] 32 1 rfl (by unfold maxLen; omega) hg
set_option maxHeartbeats 1000000 in
theorem rpln_nil (w : World) : Calls Try.prog 12 #[.pointer none] w fun e w' => e = .returned (.slice none 0 0) ∧ w' = w := by
  go_enter Try.func12, Try.ntmps12
  go_wp2
  go_ret
  exact ⟨rfl, rfl⟩
theorem sures_snoc (R : Rp) (i : Nat) (hi : i < R.l.length) : (suresM R).take i ++ [(R.seg i).sure] = (suresM R).take (i + 1) := by
  have h : i < (suresM R).length := by simpa [suresM] using hi
  rw [List.take_succ_eq_append_getElem h]
  simp [suresM, Rp.seg, List.getD_eq_getElem?_getD, hi]
set_option maxRecDepth 100000 in
set_option maxHeartbeats 4000000 in
theorem rpln_any {X : Nat → Prop} {w0 w : World} {r p : Nat} {D : Dk} {R : Rp} (h : HasRp X w0 w r p D R) (hfull : R.l.length = R.many) (hsu : ∀ i, (R.seg i).sure ≤ 1000000) :
    Calls Try.prog 12 #[.pointer (some ⟨r, 0, none⟩)] w fun e w' => ∃ w1, Below w.heap.size w w1 ∧ CutE w1 (suresM R) e w' := by
  obtain ⟨t, q, F, G, Ft, h⟩ := h
  have hm1 := h.many.1
  have hm4 := h.many.2
  have hm4i : (R.many : Int) ≤ 4 := by omega
  have HH := Go.Lib.hid h
  clear h
  go_enter Try.func12, Try.ntmps12
  go_wp2_with fail
  refine NB.wp_region_m (by kernel_rfl) ?_
  have h2 := HH.out.below (dB w)
  have B2 := dB w
  generalize w.drew = w2 at *
  have x4 := h2.box.cell 4 _ rfl
  refine NB.any_p 0 rfl (by kernel_rfl) (fun K hK => ?_); go_simp; refine hK _ ?_; clear hK K
  refine NB.any_p 1 rfl (by kernel_rfl) (fun K hK => ?_); go_simp; refine hK _ ?_; clear hK K
  refine NB.any_p 2 rfl (by kernel_rfl) (fun K hK => ?_); go_simp; refine hK _ ?_; clear hK K
  refine NB.any_p 3 rfl (by kernel_rfl) (fun K hK => ?_); go_simp; refine hK _ ?_; clear hK K
  refine NB.any_p 4 rfl (by kernel_rfl) (fun K hK => ?_); go_simp; refine hK _ ?_; clear hK K
  refine NB.any_p 5 rfl (by kernel_rfl) (fun K hK => ?_); go_simp; refine hK _ ?_; clear hK K
  refine NB.any_r 6 rfl (by kernel_rfl) rfl _ (fun w' hw' => NB.run_op_load rfl rfl Try.underlying3 rfl (x4) hw') (fun K hK => ?_); go_simp; refine hK _ ?_; clear hK K
  refine NB.any_p 7 rfl (by kernel_rfl) (fun K hK => ?_); go_simp; refine hK _ ?_; clear hK K
  refine NB.any_p 8 rfl (by kernel_rfl) (fun K hK => ?_); go_simp; refine hK _ ?_; clear hK K
  refine NB.any_p 9 rfl (by kernel_rfl) (fun K hK => ?_); go_simp; refine hK _ ?_; clear hK K
  refine NB.any_end (by kernel_rfl) ?_
  clear x4 h2
  have hlen : (suresM R).length = R.many := by simp [suresM, hfull]
  have HLN := Go.Lib.hid hlen; have HFU := Go.Lib.hid hfull
  clear hlen hfull
  have own0 : w2.ownsRow w.heap.size 32 1 (.slice none 0 0) 0 (((suresM R).take 0).map u64v) := World.ownsRow_nil _ _ _ _
  go_wp2_with fail
  go_loopw [3, 17] (fun x y wr => ∃ (i : Nat) (a : Option Addr) (c : Nat), i ≤ R.many ∧ x = .slice a i c ∧ y = .int .i64 (i : Int) ∧ Below w.heap.size w wr ∧ wr.ownsRow w.heap.size 32 1 (.slice a i c) i (((suresM R).take i).map u64v)) (fun _ y _ => R.many - (intOf y).toNat)
  case atStart => exact ⟨0, none, 0, by omega, rfl, rfl, B2, own0⟩
  case round =>
    clear B2 own0
    obtain ⟨i, a, c, hi, rfl, rfl, B3, own⟩ := hrel
    by_cases him : i < R.many
    · have hii : (i : Int) < (R.many : Int) := by omega
      have hid := decide_eq_true him
      have hi4 : i < 4 := by omega
      have hi4i : (i : Int) < 4 := by omega
      have hil : i < R.l.length := by rw [HFU.out]; exact him
      have h3 := HH.out.below B3
      have cq := rp_at h3.box i hi4 hil
      have hsr := qs_sure w0 wr (q i) p D (R.seg i) (h3.sdh i hil).sd
      have HSR := Go.Lib.hid hsr
      have hsn := sures_snoc R i hil
      have HSN := Go.Lib.hid hsn
      have hsuu : IntKind.u64.wrap ((R.seg i).sure : Int) = ((R.seg i).sure : Int) := IntWalk.u64_in _ (by have := hsu i; omega)
      clear hsr hsn h3
      go_wp2_with fail
      go_at_call 29
      refine HSR.out.mono ?_
      rintro e w4 ⟨rfl, e4⟩
      subst w4
      obtain ⟨sv, hsv⟩ : ∃ sv, (R.seg i).sure = sv := ⟨_, rfl⟩
      rw [hsv] at hsuu
      have hsn := HSN.out
      rw [hsv] at hsn
      have HSN := Go.Lib.hid hsn
      rw [hsv]
      have own5 := NB.own_keep own (oneB wr (.cells #[.int .u64 (sv : Int)] 32))
      have B5 := bel B3 (oneB wr (.cells #[.int .u64 (sv : Int)] 32)) B3.size
      clear cq own B3 hsn hsv
      go_wp2_with (at_builtin; refine NB.wpList_append_at rfl (.tmp 21) (.tmp 25) 35 rfl w.heap.size slTU _ i _ rfl own5 _ 1 1 [.int .u64 (sv : Int)] rfl (u_rd wr sv rfl) (u64_one [sv]) (by omega) (by unfold maxLen; omega) B5.size ?_; intro v6 w6 ho6 hg6 hv6; obtain ⟨a6, c6, rfl, _⟩ := NB.rd_of_own ho6; have K6 := (NB.Kp.refl (fun k => (Value.slice a i c).ownBlock = some k) _).grown hg6 (fun k e => .inl e); have B6 := B5.trans (K6.belowB (B := w.heap.size) B5.size (fun k hk => (own5.lt k hk).1)); rw [show [Value.int .u64 (sv : Int)] = [sv].map u64v from rfl, ← List.map_append, HSN.out] at ho6; clear hg6 hv6 K6)
      exact ⟨⟨i + 1, a6, c6, by omega, rfl, by simp, B6, ho6⟩, by simp [intOf]; omega⟩
    · obtain rfl : i = R.many := by omega
      have hii : ¬ (R.many : Int) < (R.many : Int) := by omega
      obtain ⟨a', c', e', hrd, hlo, _⟩ := NB.rd_of_own own
      cases e'
      have htk : (suresM R).take R.many = suresM R := List.take_of_length_le (by rw [HLN.out]; exact Nat.le_refl _)
      rw [htk] at hrd
      have hru : RdU wr a R.many c (suresM R) := ⟨hrd, fun x hx => by
        obtain ⟨S, hS, rfl⟩ := List.mem_map.1 hx
        obtain ⟨k, hk, hk2⟩ := List.mem_iff_getElem.1 hS
        have := hsu k
        rw [show R.seg k = S by unfold Rp.seg; rw [List.getD_eq_getElem?_getD, List.getElem?_eq_getElem hk]; exact hk2] at this
        omega⟩
      have hct := vcut_any wr a R.many c (suresM R) hru (by omega)
      have HCT := Go.Lib.hid hct
      have HB3 := Go.Lib.hid B3
      clear hct hru hrd hlo own htk B3
      go_wp2_with fail
      go_at_call 30
      refine HCT.out.mono ?_
      intro e w6 hc6
      have hc7 := hc6
      obtain ⟨m, _, _, _, _, a6, c6, rfl, _, _⟩ := hc6
      go_wp2_with fail
      go_ret
      exact ⟨wr, HB3.out, hc7⟩
end Go.Proofs.Ytjfidhjnbcmhfaa
namespace Go.Proofs.Ytjfidhjnbcmhfaa
open Go.RowKit
open Go.NB (Rd RdU Dk Kp Stp Off Dis val I64 Rw oneB dB rw_new B64 Ent)

theorem note_len (l : List Ent) (c s : Nat) (a : Int) : (dnote l c s a).1.length ≤ l.length + 1 := by
  unfold dnote
  split
  · exact Nat.le_succ _
  split
  · exact Nat.le_succ _
  · simp
/-- What looking leaves. -/
def LooR (X : Nat → Prop) (w0 w : World) (r p : Nat) (D : Dk) (R : Rp) (s : List Ent × Int) (e : Ending) (w' : World) : Prop :=
  e = .returned (.int .i64 s.2) ∧ HasRp X w0 w' r p D { R with tab := s.1 } ∧ Kp (fun k => ¬ X k) w w'
set_option maxRecDepth 100000 in
set_option maxHeartbeats 8000000 in
theorem rplk_any {X : Nat → Prop} {w0 w : World} {r p : Nat} {D : Dk} {R : Rp} (h : HasRp X w0 w r p D R) (i : Nat) (hi : i < R.l.length) (hll : (R.seg i).l.length ≤ 100000) (hbl : ∀ j, ∀ b ∈ (R.seg j).l, b.length ≤ 100000) (hg : (R.seg i).gone = 0) (htl : R.tab.length ≤ 800000) :
    Calls Try.prog 22 #[.pointer (some ⟨r, 0, none⟩), .int .i64 (i : Int)] w (LooR X w0 w r p D R (lookM (R.seg i) (decide (i = R.own)) (R.seg i).l.length 0 R.tab)) := by
  obtain ⟨N, hN⟩ : ∃ N, (R.seg i).l.length = N := ⟨_, rfl⟩
  obtain ⟨M, hM⟩ : ∃ M, lookM (R.seg i) (decide (i = R.own)) N 0 R.tab = M := ⟨_, rfl⟩
  have h0 := h
  obtain ⟨t, q, F, G, Ft, hh⟩ := h0
  have hi4 : i < 4 := by have := hh.len; have := hh.many.2; omega
  have hi4i : (i : Int) < 4 := by omega
  have him : i < R.many := by have := hh.len; omega
  have cq := rp_at hh.box i hi4 hi
  have hlen := qs_len w0 w (q i) p D (R.seg i) (hh.sdh i hi).sd
  rw [hN] at hlen hll ⊢
  rw [hM]
  have HM := Go.Lib.hid hM; have HN := Go.Lib.hid hN; have HLEN := Go.Lib.hid hlen; have HBL := Go.Lib.hid hbl; have HG := Go.Lib.hid hg
  clear hM hN hlen hbl hg hh
  go_enter Try.func22, Try.ntmps22
  go_wp2_with (first | (go_at_call 25; refine HLEN.out.mono ?_; rintro e w1 ⟨rfl, e1⟩; subst w1))
  clear cq
  go_loopw [15] (fun y wr => ∃ (k : Nat) (tb : List Ent), k ≤ N ∧ y = .int .i64 (k : Int) ∧ HasRp X w0 wr r p D { R with tab := tb } ∧ Kp (fun k => ¬ X k) w wr ∧ lookM (R.seg i) (decide (i = R.own)) (N - k) k tb = M ∧ tb.length ≤ R.tab.length + k) (fun y _ => N - (intOf y).toNat)
  case atStart => exact ⟨0, R.tab, by omega, rfl, h, Kp.refl _ _, HM.out, by omega⟩
  case round =>
    clear h
    obtain ⟨k, tb, hk, rfl, h1, K1, hlk, htb⟩ := hrel
    have HLK := Go.Lib.hid hlk
    clear hlk
    by_cases hkN : k < N
    case neg =>
      obtain rfl : N = k := by omega
      have hki : ¬ (N : Int) < (N : Int) := by omega
      have hq := HLK.out
      rw [Nat.sub_self] at hq
      have HQ := Go.Lib.hid (show (tb, (0 : Int)) = M from hq)
      clear hq HLK
      go_wp2_with fail
      go_ret
      rw [← HQ.out]
      exact ⟨rfl, h1, K1⟩
    have hki : (k : Int) < (N : Int) := by omega
    obtain ⟨n', hn'⟩ : ∃ n', N - k = n' + 1 := ⟨N - k - 1, by omega⟩
    have hlk := HLK.out
    rw [hn', lookM] at hlk
    have hrm : rreadM { R with tab := tb } (i : Int) (k : Int) = getM ((R.seg i).l.getD k []) := by
      unfold rreadM
      have e1 : (Rp.seg { R with tab := tb } ((i : Int)).toNat) = R.seg i := rfl
      rw [if_neg (by show ¬ ((i : Int) < 0 ∨ (R.many : Int) ≤ (i : Int)); omega), e1]
      have e2 : redM (R.seg i) (k : Int) = ((R.seg i).l.getD k [], 0) := by
        unfold redM
        rw [if_neg (by rw [HN.out]; omega), if_neg (by rw [HG.out]; omega)]
        rfl
      rw [e2, if_neg (fun h => h rfl)]
    have hrd := rprd_any h1 (i : Int) (k : Int) (fun j hj => by
      by_cases e : i = j
      · exact .inl (e ▸ hi)
      · exact .inr (by omega)) HBL.out
    rw [hrm] at hrd
    have hcs := get_cases ((R.seg i).l.getD k [])
    obtain ⟨Q, hQ⟩ : ∃ Q, getM ((R.seg i).l.getD k []) = Q := ⟨_, rfl⟩
    rw [hQ] at hlk hrd hcs
    have HRD := Go.Lib.hid hrd; have HLK := Go.Lib.hid hlk; have HCS := Go.Lib.hid hcs
    clear hlk hrm hrd hcs hQ
    have H1 := Go.Lib.hid h1
    clear h1
    go_wp2_with fail
    go_at_call 13
    refine HRD.out.mono ?_
    rintro e w2 ⟨a2, n2, c2, rfl, _, hb2⟩
    have h2 := H1.out.below hb2
    have RE : Rw (w2.alloc (.cells #[.int .u64 (Q.1.1 : Int), .int .u64 (Q.1.2.1 : Int), .slice a2 n2 c2] 34)) w2.heap.size [.int .u64 (Q.1.1 : Int), .int .u64 (Q.1.2.1 : Int), .slice a2 n2 c2] 34 := rw_new w2 [.int .u64 (Q.1.1 : Int), .int .u64 (Q.1.2.1 : Int), .slice a2 n2 c2] _ rfl
    have h3 := h2.below (oneB w2 (.cells #[.int .u64 (Q.1.1 : Int), .int .u64 (Q.1.2.1 : Int), .slice a2 n2 c2] 34))
    have K3 := kp_trans K1 (kp_trans (Kp.of_below (F := fun k => ¬ X k) hb2) (Kp.of_below (F := fun k => ¬ X k) (oneB w2 (.cells #[.int .u64 (Q.1.1 : Int), .int .u64 (Q.1.2.1 : Int), .slice a2 n2 c2] 34))))
    clear h2 hb2 K1
    by_cases he : Q.2 = 0
    case neg =>
      have heb : (Q.2 == (0 : Int)) = false := beq_eq_false_iff_ne.2 he
      have hq := HLK.out
      rw [if_pos he] at hq
      have HQ := Go.Lib.hid hq
      have H3 := Go.Lib.hid h3; have HK3 := Go.Lib.hid K3
      clear hq h3 K3 RE
      go_wp2_with fail
      go_ret
      rw [← HQ.out]
      exact ⟨rfl, H3.out, HK3.out⟩
    obtain ⟨hc1, hs1, _, _⟩ := HCS.out he
    have hq := HLK.out
    rw [if_neg (fun h => h he)] at hq
    have HQ := Go.Lib.hid hq
    have H3 := Go.Lib.hid h3; have HK3 := Go.Lib.hid K3; have HRE := Go.Lib.hid RE
    clear hq h3 K3 RE
    obtain ⟨t3, q3, F3, G3, Ft3, hi3⟩ := H3.out
    have x5 := hi3.box.cell 5 _ rfl
    have HI3 := Go.Lib.hid hi3
    clear hi3
    have hnn : N - (k + 1) = n' := by omega
    by_cases hown : i = R.own
    case neg =>
      have hob : ((i : Int) == (R.own : Int)) = false := NB.ne_int hown
      have hobn : (i == R.own) = false := by simp [hown]
      have hq := HQ.out
      rw [decide_eq_false hown] at hq
      have HQ := Go.Lib.hid hq
      clear hq
      rw [he]
      go_wp2_with fail
      exact ⟨⟨k + 1, tb, by omega, by simp, H3.out, HK3.out, by rw [hnn, decide_eq_false hown]; exact HQ.out, by omega⟩, by simp [intOf]; omega⟩
    · have hob : ((i : Int) == (R.own : Int)) = true := by rw [hown]; simp
      have hobn : (i == R.own) = true := by simp [hown]
      have hq := HQ.out
      rw [decide_eq_true hown] at hq
      have HQ := Go.Lib.hid hq
      clear hq
      rw [he]
      go_wp2_with fail
      refine NB.wp_region_t [9] (by kernel_rfl) ?_
      have h5 := HI3.out.below (dB _)
      have RE5 := HRE.out.below (dB _)
      have K05 := kp_trans HK3.out (Kp.of_below (F := fun k => ¬ X k) (dB _))
      clear x5
      generalize World.drew _ = w5 at *
      have x6 := h5.box.cell 6 _ rfl
      have m0 := RE5.cell 0 _ rfl
      have m1 := RE5.cell 1 _ rfl
      refine NB.t_p 0 rfl (by kernel_rfl) (fun K hK => ?_); go_simp; refine hK _ ?_; clear hK K
      refine NB.t_p 1 rfl (by kernel_rfl) (fun K hK => ?_); go_simp; refine hK _ ?_; clear hK K
      refine NB.t_p 2 rfl (by kernel_rfl) (fun K hK => ?_); go_simp; refine hK _ ?_; clear hK K
      refine NB.t_r 3 [9] rfl (by kernel_rfl) (by kernel_rfl) (by go_simp) _ (fun w' hw' => NB.run_op_load rfl rfl Try.underlying57 rfl (x6) hw') (fun K hK => ?_); go_simp; refine hK _ ?_; clear hK K
      refine NB.t_p 4 rfl (by kernel_rfl) (fun K hK => ?_); go_simp; refine hK _ ?_; clear hK K
      refine NB.t_r 5 [9] rfl (by kernel_rfl) (by kernel_rfl) (by go_simp) _ (fun w' hw' => NB.run_op_load rfl rfl Try.underlying32 rfl (m0) hw') (fun K hK => ?_); go_simp; refine hK _ ?_; clear hK K
      refine NB.t_p 6 rfl (by kernel_rfl) (fun K hK => ?_); go_simp; refine hK _ ?_; clear hK K
      refine NB.t_r 7 [9] rfl (by kernel_rfl) (by kernel_rfl) (by go_simp) _ (fun w' hw' => NB.run_op_load rfl rfl Try.underlying32 rfl (m1) hw') (fun K hK => ?_); go_simp; refine hK _ ?_; clear hK K
      refine NB.t_p 8 rfl (by kernel_rfl) (fun K hK => ?_); go_simp; refine hK _ ?_; clear hK K
      obtain ⟨baset', hbt', htbb⟩ := h5.tab
      have hnt := note_any w5 baset' t3 Ft3 tb Q.1.1 Q.1.2.1 (k : Int) htbb hc1 hs1 (WalkArith.wf_i64 (by omega)) (by omega)
      have HNT := Go.Lib.hid hnt
      clear hnt x6 m0 m1
      refine NB.t_w 9 rfl (by kernel_rfl) (by kernel_rfl) rfl (fun Q' hK => ?_)
      go_wp2_with fail
      go_at_call 33
      refine HNT.out.mono ?_
      rintro e w6 ⟨rfl, ht6, s6⟩
      go_wp2_with fail
      have h6 := h5.note hbt' ht6 s6
      have K06 := kp_trans K05 (s6.kp.imp (fun k hf hx => (h5.off k (.inr hx)).2.2 hf))
      refine NB.t_end (by kernel_rfl) ?_
      have H6 := Go.Lib.hid h6; have HK6 := Go.Lib.hid K06
      clear h6 K06 h5 K05 RE5 ht6 s6 htbb
      have hnl := note_len tb Q.1.1 Q.1.2.1 (k : Int)
      go_wp2_with fail
      exact ⟨⟨_, _, _, _, _, ⟨k + 1, by omega, rfl, (dnote tb Q.1.1 Q.1.2.1 (k : Int)).1, ⟨t3, q3, F3, G3, Ft3, H6.out⟩, HK6.out, by rw [hnn, ← hown]; exact HQ.out, by omega⟩, rfl, rfl, rfl, rfl, by simp⟩, by simp [intOf]; omega⟩
end Go.Proofs.Ytjfidhjnbcmhfaa
namespace Go.Proofs.Ytjfidhjnbcmhfaa
open Go.RowKit
open Go.NB (Rd RdU Dk Kp Stp Off Dis val I64 Rw oneB dB rw_new B64 Ent)

/-- All that is not the disk's. -/
def allR (X : Nat → Prop) (r : Nat) (F : Nat → Nat → Prop) (Ft : Nat → Prop) (m : Nat) : Nat → Prop := fun k => k = r ∨ X k ∨ Ft k ∨ ∃ j, j < m ∧ F j k
section
variable {X : Nat → Prop} {w0 w w' : World} {r p t : Nat} {q : Nat → Nat} {F : Nat → Nat → Prop} {G Ft : Nat → Prop} {D D' : Dk} {R : Rp}
theorem IsRp.ddh (h : IsRp X w0 w r p t q F G Ft D R) : DdH (allR X r F Ft R.l.length) w0 w p D := by
  obtain ⟨based, hbd, hd⟩ := h.dsk
  obtain ⟨baset, hbt, ht⟩ := h.tab
  refine ⟨based, G, hd, hbd, h.low, fun k hk => ?_⟩
  rcases hk with hk | hk | hk | ⟨j, hj, hk⟩
  · subst hk; exact ⟨h.box.lt, (h.off k (.inl rfl)).2.1⟩
  · exact ⟨h.xlt k hk, (h.off k (.inr hk)).2.1⟩
  · exact ⟨(ht.foot k hk).2, fun hg => h.gt k hg hk⟩
  · obtain ⟨bj, _, hsj⟩ := h.seg j hj
    exact ⟨(hsj.foot k hk).2, fun hg => h.fg j hj k hk hg⟩
theorem push_seg (R : Rp) (S : Sg) (j : Nat) : Rp.seg { R with l := R.l ++ [S] } j = if j = R.l.length then S else R.seg j := by
  unfold Rp.seg
  simp only [List.getD_eq_getElem?_getD]
  split
  · rename_i h; subst h; simp
  · rename_i h
    by_cases hj : j < R.l.length
    · rw [List.getElem?_append_left hj]
    · rw [List.getElem?_eq_none (by simp; omega), List.getElem?_eq_none (by omega)]
/-- A segment more has been opened, and its pointer laid into the box. -/
theorem IsRp.push (h : IsRp X w0 w r p t q F G Ft D R) (hlt : R.l.length < R.many) {q' : Nat} {S' : Sg} (hs : SdH (allR X r F Ft R.l.length) w0 w' q' p D S') (hb : Below w.heap.size w w') :
    HasRp X w0 (w'.setCell ⟨r, R.l.length, none⟩ (.pointer (some ⟨q', 0, none⟩))) r p D { R with l := R.l ++ [S'] } := by
  obtain ⟨base, based, F', G', h1, h2, h3, h4, h5, h6, h7⟩ := hs
  obtain ⟨n, hn⟩ : ∃ n, R.l.length = n := ⟨_, rfl⟩
  have hg := h.below hb
  have hpl : ({ R with l := R.l ++ [S'] } : Rp).l.length = n + 1 := by simp [hn]
  have hsg := fun j => push_seg R S' j
  rw [hn] at hlt hsg h7 ⊢
  have hm4 := h.many.2
  have K : Kp (fun k => k = r) w' (w'.setCell ⟨r, n, none⟩ (.pointer (some ⟨q', 0, none⟩))) := (Kp.refl (fun k => k = r) w').setCell (x := ⟨r, n, none⟩) (.inl rfl) _
  obtain ⟨baset, hbt, ht⟩ := hg.tab
  have hr0 : allR X r F Ft n r := .inl rfl
  have ho := h.off r (.inl rfl)
  refine ⟨t, fun j => if j = n then q' else q j, fun j => if j = n then F' else F j, G', Ft, ?_⟩
  refine ⟨?_, by rw [hpl]; exact hlt, h.many, h.own, fun j hj => ?_, ⟨based, h5, h2.keep K (fun k hf hk => (h7 r hr0).2.2 (hk ▸ hf))⟩, ⟨baset, hbt, ht.keep K (fun k hf hk => ho.2.2 (hk ▸ hf))⟩, fun j hj => ?_, fun j l hj hl hne => ?_, fun j hj => ?_, fun k hg hf => ?_, fun k hkx => ?_, h.rx, fun k hx => ?_, h6.trans (K.belowB h6.size (fun k hk => hk ▸ h.rlow)), h.rlow⟩
  · have hb0 := hg.box.set n (.pointer (some ⟨q', 0, none⟩))
    have e : (rpL R q t).set n (.pointer (some ⟨q', 0, none⟩)) = rpL { R with l := R.l ++ [S'] } (fun j => if j = n then q' else q j) t := by
      unfold rpL qv
      rw [hpl, hn]
      match n, (show n < 4 by omega) with
      | 0, _ => rfl
      | 1, _ => rfl
      | 2, _ => rfl
      | 3, _ => rfl
    rw [e] at hb0
    exact hb0
  · rw [hpl] at hj
    rw [hsg j]
    by_cases e : j = n
    · subst e; simp only [if_true]; exact ⟨base, h4, h1.keep K (fun k hf hk => (h7 r hr0).2.1 (hk ▸ hf))⟩
    · simp only [if_neg e]
      obtain ⟨bj, hbj, hsj⟩ := hg.seg j (by omega)
      exact ⟨bj, hbj, hsj.keep K (fun k hf hk => ho.1 j (by omega) (hk ▸ hf))⟩
  · rw [hpl] at hj
    by_cases e : j = n
    · simp only [if_pos e]; exact h3
    · simp only [if_neg e]; exact fun k hf hg => (h7 k (.inr (.inr (.inr ⟨j, by omega, hf⟩)))).2.2 hg
  · rw [hpl] at hj hl
    by_cases e : j = n
    · have el : l ≠ n := fun e2 => hne (e.trans e2.symm)
      simp only [if_pos e, if_neg el]
      exact fun k hf hg => (h7 k (.inr (.inr (.inr ⟨l, by omega, hg⟩)))).2.1 hf
    · by_cases el : l = n
      · simp only [if_pos el, if_neg e]
        exact fun k hf hg => (h7 k (.inr (.inr (.inr ⟨j, by omega, hf⟩)))).2.1 hg
      · simp only [if_neg el, if_neg e]; exact h.ff j l (by omega) (by omega) hne
  · rw [hpl] at hj
    by_cases e : j = n
    · simp only [if_pos e]; exact fun k hf hg => (h7 k (.inr (.inr (.inl hg)))).2.1 hf
    · simp only [if_neg e]; exact h.ft j (by omega)
  · exact (h7 k (.inr (.inr (.inl hf)))).2.2 hg
  · have hr : allR X r F Ft n k := hkx.elim (fun e => .inl e) (fun e => .inr (.inl e))
    refine ⟨fun j hj => ?_, (h7 k hr).2.2, (h.off k hkx).2.2⟩
    rw [hpl] at hj
    by_cases e : j = n
    · simp only [if_pos e]; exact (h7 k hr).2.1
    · simp only [if_neg e]; exact (h.off k hkx).1 j (by omega)
  · exact Nat.lt_of_lt_of_le (h7 k (.inr (.inl hx))).1 K.size
end
end Go.Proofs.Ytjfidhjnbcmhfaa
namespace Go.Proofs.Ytjfidhjnbcmhfaa
open Go.RowKit
open Go.NB.Crc
open Go.NB (Rd RdU Dk Kp Stp Off Dis val I64 Rw oneB dB rw_new B64 Ent)

theorem rec_len {R : List (List UInt8)} {u place ep : Nat} {b : List UInt8} {pn x : Nat} (h : recordM R u place ep = some (b, pn, x)) : b.length ≤ 4140 := by
  unfold recordM at h
  split at h
  · cases h
  · rename_i f hf
    split at h
    · cases h
    · rename_i hc
      cases hg : gath R u f f.pn 0 with
      | none => rw [hg] at h; cases h
      | some c =>
        rw [hg] at h
        simp only [Option.map_some, Option.some.injEq, Prod.mk.injEq] at h
        obtain ⟨rfl, rfl, rfl⟩ := h
        have := gath_len _ _ _ hg
        omega
theorem open_lens {R : List (List UInt8)} : ∀ (k : Nat) (l : List (List UInt8)) (u ep : Nat), (∀ b ∈ l, b.length ≤ 4140) → ∀ b ∈ (openLoop R k l u ep).1, b.length ≤ 4140
  | 0, l, u, ep, h => h
  | k + 1, l, u, ep, h => by
    rw [openLoop]
    split
    · exact h
    · rename_i b pn x hr
      refine open_lens k (l ++ [b]) (u + pn) x (fun y hy => ?_)
      simp only [List.mem_append, List.mem_singleton] at hy
      rcases hy with hy | rfl
      · exact h y hy
      · exact rec_len hr
theorem look_len (S : Sg) (m : Bool) : ∀ (n a : Nat) (t : List Ent), (lookM S m n a t).1.length ≤ t.length + n
  | 0, a, t => Nat.le_refl _
  | n + 1, a, t => by
    rw [lookM]
    split
    · exact Nat.le_add_right _ _
    · have h1 := look_len S m n (a + 1) (if m then (dnote t (getM (S.l.getD a [])).1.1 (getM (S.l.getD a [])).1.2.1 (a : Int)).1 else t)
      have h2 : (if m then (dnote t (getM (S.l.getD a [])).1.1 (getM (S.l.getD a [])).1.2.1 (a : Int)).1 else t).length ≤ t.length + 1 := by
        split
        · exact note_len _ _ _ _
        · exact Nat.le_succ _
      omega
theorem opens_bd {D : Dk} {frm n : Int} (h : openE D frm n = 0) (hD : D.l.length ≤ 65536) : (openS D frm n).l.length ≤ 65536 ∧ (openS D frm n).gone = 0 ∧ ∀ b ∈ (openS D frm n).l, b.length ≤ 4140 := by
  have ha : ¬ (frm < 0 ∨ n < 1 ∨ (D.l.length : Int) < frm ∨ (D.l.length : Int) - frm < n) := fun hh => by unfold openE at h; rw [if_pos hh] at h; cases h
  have hb := open_bound (R := regM D frm.toNat n.toNat) ((regM D frm.toNat n.toNat).length + 1) [] 0 0 (Nat.zero_le _)
  have hl := open_lens (R := regM D frm.toNat n.toNat) ((regM D frm.toNat n.toNat).length + 1) [] 0 0 (fun b hb => nomatch hb)
  have hr : (regM D frm.toNat n.toNat).length = n.toNat := by simp [regM]
  refine ⟨?_, rfl, hl⟩
  show (openLoop (regM D frm.toNat n.toNat) ((regM D frm.toNat n.toNat).length + 1) [] 0 0).1.length ≤ 65536
  have h1 := hb.2; have h2 := hb.1; simp only [List.length_nil] at h1; omega
/-- What opening leaves. -/
def OpnR (X : Nat → Prop) (w0 w : World) (p : Nat) (D : Dk) (Q : Rp × Int) (e : Ending) (w' : World) : Prop :=
  ((Q.2 ≠ 0 ∧ e = .returned (.tuple #[.pointer none, .int .i64 Q.2]) ∧ DdH X w0 w' p D) ∨
   (Q.2 = 0 ∧ ∃ r, e = .returned (.tuple #[.pointer (some ⟨r, 0, none⟩), .int .i64 0]) ∧ HasRp X w0 w' r p D Q.1)) ∧ Kp (fun k => ¬ X k) w w'
theorem HasRp.dd {X : Nat → Prop} {w0 w : World} {r p : Nat} {D : Dk} {R : Rp} (h : HasRp X w0 w r p D R) : DdH X w0 w p D := by
  obtain ⟨t, q, F, G, Ft, h⟩ := h
  obtain ⟨based, G, h2, h5, h6, h7⟩ := h.ddh
  exact ⟨based, G, h2, h5, h6, fun k hk => h7 k (.inr (.inl hk))⟩
/-- A replica without segments, just made. -/
theorem isRp_new {X : Nat → Prop} {w0 w w1 : World} {p t : Nat} {Ft : Nat → Prop} {D : Dk} (h : DdH X w0 w p D) (ht : HasT w1 w.heap.size t Ft []) (hb : Below w.heap.size w w1) (M O : Nat) (hM : 1 ≤ M ∧ M ≤ 4) (hO : O < M) :
    HasRp X w0 (w1.alloc (.cells #[.pointer none, .pointer none, .pointer none, .pointer none, .int .i64 (M : Int), .int .i64 (O : Int), .pointer (some ⟨t, 0, none⟩), .bool false, .int .i64 0] 62)) w1.heap.size p D ⟨M, O, [], [], false, 0⟩ := by
  obtain ⟨based, G, h2, h5, h6, h7⟩ := h
  have ob := oneB w1 (.cells #[.pointer none, .pointer none, .pointer none, .pointer none, .int .i64 (M : Int), .int .i64 (O : Int), .pointer (some ⟨t, 0, none⟩), .bool false, .int .i64 0] 62)
  have hs := hb.size
  have hw0 := h6.size
  refine ⟨t, fun _ => 0, fun _ _ => False, G, Ft, rw_new w1 [.pointer none, .pointer none, .pointer none, .pointer none, .int .i64 (M : Int), .int .i64 (O : Int), .pointer (some ⟨t, 0, none⟩), .bool false, .int .i64 0] _ rfl, Nat.zero_le _, hM, hO, fun i hi => absurd hi (Nat.not_lt_zero _), ⟨based, h5, (h2.below hb).below ob⟩, ⟨_, hw0, ht.below ob⟩, fun i hi => absurd hi (Nat.not_lt_zero _), fun i j hi => absurd hi (Nat.not_lt_zero _), fun i hi => absurd hi (Nat.not_lt_zero _), fun k hg hf => ?_, fun k hk => ?_, fun hx => ?_, fun k hx => ?_, bel (bel h6 hb hw0) ob (Nat.le_trans hw0 hs), Nat.le_trans hw0 hs⟩
  · have := (h2.foot k hg).2; have := (ht.foot k hf).1; omega
  · refine ⟨fun i hi => absurd hi (Nat.not_lt_zero _), fun hg => ?_, fun hf => ?_⟩
    · have h8 := (h2.foot k hg).2
      rcases hk with hk | hk
      · omega
      · exact (h7 k hk).2 hg
    · have h8 := ht.foot k hf
      rcases hk with hk | hk
      · omega
      · have := (h7 k hk).1; omega
  · have := (h7 _ hx).1; omega
  · exact Nat.lt_of_lt_of_le (h7 k hx).1 (Nat.le_trans hs ob.size)
end Go.Proofs.Ytjfidhjnbcmhfaa
namespace Go.Proofs.Ytjfidhjnbcmhfaa
open Go.RowKit
open Go.NB.Crc
open Go.NB (Rd RdU Dk Kp Stp Off Dis val I64 Rw oneB dB rw_new B64 Ent)

set_option maxRecDepth 100000 in
set_option maxHeartbeats 16000000 in
theorem rpop_go {X : Nat → Prop} {w0 w : World} {p : Nat} {D : Dk} (h : DdH X w0 w p D) (f : Nat) (n : Int) (M O : Nat) (hM : 1 ≤ M ∧ M ≤ 4) (hO : O < M) (hf : f ≤ 1000000) (hn : -1000000 ≤ n ∧ n ≤ 1000000) (hwn : D.waits.length ≤ 900000) (hln : D.l.length ≤ 65536) :
    Calls Try.prog 10 #[.pointer (some ⟨p, 0, none⟩), .int .i64 (f : Int), .int .i64 n, .int .i64 (M : Int), .int .i64 (O : Int)] w (OpnR X w0 w p D (opnM D (f : Int) n O M 0 ⟨M, O, [], [], false, 0⟩)) := by
  obtain ⟨Q, hQ⟩ : ∃ Q, opnM D (f : Int) n O M 0 ⟨M, O, [], [], false, 0⟩ = Q := ⟨_, rfl⟩
  rw [hQ]
  have HQ := Go.Lib.hid hQ
  have g1 : ¬ (M : Int) < 1 := by omega
  have g2 : ¬ (4 : Int) < (M : Int) := by omega
  have g3 : ¬ (O : Int) < 0 := by omega
  have g4 : ¬ (M : Int) ≤ (O : Int) := by omega
  have d1 := decide_eq_false g1
  have d1z : decide (M = 0) = false := decide_eq_false (by omega)
  have d1n : decide (M < 1) = false := decide_eq_false (by omega)
  have d2 := decide_eq_false g2
  have d2n : decide (4 < M) = false := decide_eq_false (by omega)
  have d4 := decide_eq_false g4
  have d4n : decide (M ≤ O) = false := decide_eq_false (by omega)
  clear hQ
  go_enter Try.func10, Try.ntmps10
  go_wp2_with fail
  go_at_call 20
  refine (tnew_any _).mono ?_
  rintro e w1 ⟨t, Ft, rfl, ht, hb1⟩
  have hR := isRp_new h ht hb1 M O hM hO
  have ob := oneB w1 (.cells #[.pointer none, .pointer none, .pointer none, .pointer none, .int .i64 (M : Int), .int .i64 (O : Int), .pointer (some ⟨t, 0, none⟩), .bool false, .int .i64 0] 62)
  have K1 := kp_trans (Kp.of_below (F := fun k => ¬ X k) hb1) (Kp.of_below (F := fun k => ¬ X k) ob)
  have hs1 := hb1.size
  clear h ht hb1 ob d1 d1z d1n d2 d2n d4 d4n
  go_wp2_with fail
  generalize w1.alloc (.cells #[.pointer none, .pointer none, .pointer none, .pointer none, .int .i64 (M : Int), .int .i64 (O : Int), .pointer (some ⟨t, 0, none⟩), .bool false, .int .i64 0] 62) = w2 at *
  generalize w1.heap.size = r at *
  go_loopw [38] (fun y wr => ∃ (k : Nat) (Rk : Rp), k ≤ M ∧ y = .int .i64 (k : Int) ∧ HasRp X w0 wr r p D Rk ∧ Rk.l.length = k ∧ Rk.many = M ∧ Rk.own = O ∧ opnM D (f : Int) n O (M - k) k Rk = Q ∧ Rk.tab.length ≤ 65536 * k ∧ (∀ j, ∀ b ∈ (Rk.seg j).l, b.length ≤ 100000) ∧ Kp (fun k => ¬ X k) w wr) (fun y _ => M - (intOf y).toNat)
  case atStart => exact ⟨0, ⟨M, O, [], [], false, 0⟩, by omega, rfl, hR, rfl, rfl, rfl, HQ.out, by simp, fun j b hb => by simp [Rp.seg, sgZ] at hb, K1⟩
  case round =>
    clear hR K1
    obtain ⟨k, Rk, hkM, rfl, hR, hl, hmm, hoo, hop, htl, hbl, K1⟩ := hrel
    have HOP := Go.Lib.hid hop; have HR := Go.Lib.hid hR; have HL := Go.Lib.hid hl; have HMM := Go.Lib.hid hmm; have HOO := Go.Lib.hid hoo; have HBL := Go.Lib.hid hbl; have HTL := Go.Lib.hid htl
    clear hop hR hl hmm hoo hbl htl
    by_cases hk : k < M
    case neg =>
      obtain rfl : M = k := by omega
      have hki : ¬ (M : Int) < (M : Int) := by omega
      have hq := HOP.out
      rw [Nat.sub_self] at hq
      have HQ2 := Go.Lib.hid (show (Rk, (0 : Int)) = Q from hq)
      clear hq
      go_wp2_with fail
      refine bodyPost_ret (v := .tuple #[.pointer (some ⟨r, 0, none⟩), .int .i64 0]) (by simp [results, Try.results10, go_sem]) rfl ?_
      rw [← HQ2.out]
      exact ⟨.inr ⟨rfl, r, rfl, HR.out⟩, K1⟩
    have hki : (k : Int) < (M : Int) := by omega
    have hk4 : k < 4 := by omega
    have hk4i : (k : Int) < 4 := by omega
    obtain ⟨n', hn'⟩ : ∃ n', M - k = n' + 1 := ⟨M - k - 1, by omega⟩
    have hop := HOP.out
    rw [hn', opnM] at hop
    obtain ⟨kn, hkn⟩ : ∃ kn, (k : Int) * n = kn := ⟨_, rfl⟩
    have hknb : -4000000 ≤ kn ∧ kn ≤ 4000000 := by
      have hk : k = 0 ∨ k = 1 ∨ k = 2 ∨ k = 3 := by omega
      rcases hk with rfl | rfl | rfl | rfl <;> first | omega | (simp at hkn; omega)
    rw [hkn] at hop
    have wx1 : IntKind.i64.wrap kn = kn := IntWalk.i64_in _ (by omega)
    have wx2 : IntKind.i64.wrap ((f : Int) + kn) = (f : Int) + kn := IntWalk.i64_in _ (by omega)
    obtain ⟨t2, q2, F2, G2, Ft2, hh⟩ := HR.out
    have hqo := qg_open _ w0 wr p D ((f : Int) + kn) n hh.ddh (by omega) (WalkArith.wf_i64 (by omega)) (WalkArith.wf_i64 (by omega))
    have HQO := Go.Lib.hid hqo; have HH := Go.Lib.hid hh; have HOP2 := Go.Lib.hid hop
    clear hqo hh hop HOP
    by_cases ho : openE D ((f : Int) + kn) n = 0
    case neg =>
      obtain ⟨x, hx⟩ : ∃ x, openE D ((f : Int) + kn) n = x := ⟨_, rfl⟩
      have hop := HOP2.out
      rw [if_pos ho, hx] at hop
      rw [hx] at ho
      have hxb : (x == (0 : Int)) = false := beq_eq_false_iff_ne.2 ho
      have hxn : (x != (0 : Int)) = true := by simp [ho]
      have HX := Go.Lib.hid hx; have HOP3 := Go.Lib.hid hop
      clear hx hop
      go_wp2_with (first
        | (go_at_call 21; refine HQO.out.mono ?_; intro e w5 hh5; obtain ⟨_, rfl, DD5, hb5⟩ := hh5.resolve_right (fun h => ho (HX.out.symm.trans h.1)); rw [HX.out]))
      refine bodyPost_ret (v := .tuple #[.pointer none, .int .i64 x]) (by simp [results, Try.results10, go_sem]) rfl ?_
      rw [← HOP3.out]
      exact ⟨.inl ⟨ho, rfl, (HR.out.below hb5).dd⟩, kp_trans K1 (Kp.of_below hb5)⟩
    have hop := HOP2.out
    rw [if_neg (fun h => h ho)] at hop
    obtain ⟨S', hS'⟩ : ∃ S', openS D ((f : Int) + kn) n = S' := ⟨_, rfl⟩
    have hbd := opens_bd ho hln
    rw [hS'] at hop hbd
    have HO := Go.Lib.hid ho; have HOP3 := Go.Lib.hid hop; have HBD := Go.Lib.hid hbd
    clear ho hop hbd
    have hrlt : r < wr.heap.size := HH.out.box.lt
    go_wp2_with fail
    go_at_call 21
    refine HQO.out.mono ?_
    intro e w5 hh5
    obtain ⟨_, q', rfl, SS5, hb5⟩ := hh5.resolve_left (fun h => h.1 HO.out)
    rw [hS'] at SS5
    have hpu := HH.out.push (by rw [HL.out, HMM.out]; exact hk) SS5 hb5
    rw [HL.out] at hpu
    have hfz := (HH.out.box.below hb5).free k
    have hbx := HH.out.box.below hb5
    have hce : ∃ v, w5.cell? ⟨r, k, none⟩ = some v := by
      have h3 : (rpL Rk q2 t2)[k]? = some (qv Rk q2 k) := by
        match k, hk4 with
        | 0, _ => rfl
        | 1, _ => rfl
        | 2, _ => rfl
        | 3, _ => rfl
      exact ⟨_, hbx.cell k _ h3⟩
    obtain ⟨cv, hcv⟩ := hce
    have K5 := (kp_trans K1 (Kp.of_below (F := fun k => ¬ X k) hb5)).setCell (x := ⟨r, k, none⟩) (.inl HH.out.rx) (.pointer (some ⟨q', 0, none⟩))
    have HPU := Go.Lib.hid hpu; have HK5 := Go.Lib.hid K5
    clear hpu SS5 hb5 K5 hbx
    have hsk : Rp.seg { Rk with l := Rk.l ++ [S'] } k = S' := by rw [push_seg, if_pos HL.out.symm]
    have hlk := rplk_any HPU.out k (by show k < (Rk.l ++ [S']).length; rw [List.length_append, HL.out]; simp) (by rw [hsk]; have := HBD.out.1; omega) (fun j b hb => by
      rw [push_seg] at hb
      split at hb
      · have := HBD.out.2.2 b hb; omega
      · exact HBL.out j b hb) (by rw [hsk]; exact HBD.out.2.1) (by show Rk.tab.length ≤ 800000; have := HTL.out; omega)
    rw [hsk] at hlk
    have hown : (Rp.own { Rk with l := Rk.l ++ [S'] }) = O := HOO.out
    rw [hown] at hlk
    have hop := HOP3.out
    obtain ⟨tb, er, hLK⟩ : ∃ tb er, lookM S' (decide (k = O)) S'.l.length 0 Rk.tab = (tb, er) := ⟨_, _, rfl⟩
    have hlen := look_len S' (decide (k = O)) S'.l.length 0 Rk.tab
    have hlk0 : lookM S' (decide (k = O)) S'.l.length 0 (Rp.tab { Rk with l := Rk.l ++ [S'] }) = (tb, er) := hLK
    rw [hlk0] at hlk
    rw [hLK] at hop hlen
    simp only at hop hlen
    have HLK := Go.Lib.hid hlk; have HOP4 := Go.Lib.hid hop; have HLEN := Go.Lib.hid hlen
    clear hlk hop hlen hLK hlk0 hsk hown
    go_wp2_with fail
    clear hcv hfz
    go_at_call 22
    refine HLK.out.mono ?_
    rintro e w7 ⟨rfl, hR7, K7⟩
    have K17 := kp_trans HK5.out K7
    have HR7 := Go.Lib.hid hR7; have HK17 := Go.Lib.hid K17
    clear hR7 K17 K7
    by_cases her : er = 0
    case neg =>
      have hxb : (er == (0 : Int)) = false := beq_eq_false_iff_ne.2 her
      have hxn : (er != (0 : Int)) = true := by simp [her]
      have hop := HOP4.out
      rw [if_pos her] at hop
      have HOP5 := Go.Lib.hid hop
      clear hop
      simp only
      go_wp2_with fail
      refine bodyPost_ret (v := .tuple #[.pointer none, .int .i64 er]) (by simp [results, Try.results10, go_sem]) rfl ?_
      rw [← HOP5.out]
      exact ⟨.inl ⟨her, rfl, HR7.out.dd⟩, HK17.out⟩
    subst her
    have hop := HOP4.out
    rw [if_neg (fun h => h rfl)] at hop
    have hnn : M - (k + 1) = n' := by omega
    have HOP5 := Go.Lib.hid hop
    clear hop
    simp only
    go_wp2_with fail
    exact ⟨⟨k + 1, { Rk with l := Rk.l ++ [S'], tab := tb }, by omega, by simp, by have h7 := HR7.out; rw [← HOO.out] at h7; exact h7, by simp [HL.out], HMM.out, HOO.out, by rw [hnn]; exact HOP5.out, by have := HLEN.out; have := HTL.out; have := HBD.out.1; show tb.length ≤ _; omega, fun j b hb => by
      have hb2 : b ∈ (Rp.seg { Rk with l := Rk.l ++ [S'] } j).l := hb
      rw [push_seg] at hb2
      split at hb2
      · have := HBD.out.2.2 b hb2; omega
      · exact HBL.out j b hb2, HK17.out⟩, by simp [intOf]; omega⟩
end Go.Proofs.Ytjfidhjnbcmhfaa
namespace Go.Proofs.Ytjfidhjnbcmhfaa
open Go.RowKit
open Go.NB.Crc
open Go.NB (Rd RdU Dk Kp Stp Off Dis val I64 Rw oneB dB rw_new B64 Ent)

set_option maxHeartbeats 4000000 in
theorem rpop_bad (w : World) (p : Nat) (f n many own : Int) (hbad : many < 1 ∨ 4 < many ∨ own < 0 ∨ many ≤ own) :
    Calls Try.prog 10 #[.pointer (some ⟨p, 0, none⟩), .int .i64 f, .int .i64 n, .int .i64 many, .int .i64 own] w fun e w' => e = .returned (.tuple #[.pointer none, .int .i64 1]) ∧ w' = w := by
  by_cases g1 : many < 1
  · have d1 := decide_eq_true g1
    go_enter Try.func10, Try.ntmps10
    go_wp2_with fail
    refine bodyPost_ret (v := .tuple #[.pointer none, .int .i64 1]) (by simp [results, Try.results10, go_sem]) rfl ?_
    exact ⟨rfl, rfl⟩
  have d1 := decide_eq_false g1
  by_cases g2 : 4 < many
  · have d2 := decide_eq_true g2
    go_enter Try.func10, Try.ntmps10
    go_wp2_with fail
    refine bodyPost_ret (v := .tuple #[.pointer none, .int .i64 1]) (by simp [results, Try.results10, go_sem]) rfl ?_
    exact ⟨rfl, rfl⟩
  have d2 := decide_eq_false g2
  by_cases g3 : own < 0
  · have d3 := decide_eq_true g3
    go_enter Try.func10, Try.ntmps10
    go_wp2_with fail
    refine bodyPost_ret (v := .tuple #[.pointer none, .int .i64 1]) (by simp [results, Try.results10, go_sem]) rfl ?_
    exact ⟨rfl, rfl⟩
  have d3 := decide_eq_false g3
  have g4 : many ≤ own := by rcases hbad with h | h | h | h; exact absurd h g1; exact absurd h g2; exact absurd h g3; exact h
  have d4 := decide_eq_true g4
  go_enter Try.func10, Try.ntmps10
  go_wp2_with fail
  refine bodyPost_ret (v := .tuple #[.pointer none, .int .i64 1]) (by simp [results, Try.results10, go_sem]) rfl ?_
  exact ⟨rfl, rfl⟩
theorem rpop_any {X : Nat → Prop} {w0 w : World} {p : Nat} {D : Dk} (h : DdH X w0 w p D) (f : Nat) (n many own : Int) (hf : f ≤ 1000000) (hn : -1000000 ≤ n ∧ n ≤ 1000000) (hwn : D.waits.length ≤ 900000) (hln : D.l.length ≤ 65536) :
    Calls Try.prog 10 #[.pointer (some ⟨p, 0, none⟩), .int .i64 (f : Int), .int .i64 n, .int .i64 many, .int .i64 own] w (OpnR X w0 w p D (ropnM D (f : Int) n many own)) := by
  by_cases hbad : many < 1 ∨ 4 < many ∨ own < 0 ∨ many ≤ own
  · refine (rpop_bad w p (f : Int) n many own hbad).mono ?_
    rintro e w' ⟨rfl, rfl⟩
    rw [show ropnM D (f : Int) n many own = (⟨0, 0, [], [], false, 0⟩, 1) by unfold ropnM; rw [if_pos hbad]]
    exact ⟨.inl ⟨by decide, rfl, h⟩, Kp.refl _ _⟩
  · obtain ⟨M, rfl⟩ := Int.eq_ofNat_of_zero_le (show 0 ≤ many by omega)
    obtain ⟨O, rfl⟩ := Int.eq_ofNat_of_zero_le (show 0 ≤ own by omega)
    have h2 := rpop_go h f n M O (by omega) (by omega) hf hn hwn hln
    rw [show ropnM D (f : Int) n (M : Int) (O : Int) = opnM D (f : Int) n O M 0 ⟨M, O, [], [], false, 0⟩ by unfold ropnM; rw [if_neg hbad, Int.toNat_natCast, Int.toNat_natCast]]
    exact h2
end Go.Proofs.Ytjfidhjnbcmhfaa
