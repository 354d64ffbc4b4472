/- The segment's statements: 'awake', walked. -/
import Derived.Test.YtmgkaoenjnnlmaaSgx2
namespace Go.Proofs.Ytmgkaoenjnnlmaa
open Go.RowKit
open Go.NB (Rd Dk Kp Stp Off Dis val oneB dB I64)

def hello5 : List UInt8 := [104, 101, 108, 108, 111]
def lost4 : List UInt8 := [108, 111, 115, 116]
/-- What 'awake' sees. -/
structure AwS (D1 D2 D3 : Dk) (S0 S1 S2 S3 S4 : Sg) : Prop where
  o1 : openE (Dk.fresh 8) 1 6 = 0
  o2 : openS (Dk.fresh 8) 1 6 = S0
  a1 : appM (Dk.fresh 8) S0 hello5 = (D1, S1, 0, 0)
  sy : synM D1 S1 = (D2, S2, 0)
  a2 : appM D2 S2 lost4 = (D3, S3, 1, 0)
  o3 : openE (D3.crash []) 1 6 = 0
  o4 : openS (D3.crash []) 1 6 = S4
  r : redM S4 0 = (hello5, 0)
  len : S4.l.length = 1
  l : S4.l = [hello5]
  sure : S4.sure = 1
  free : (S4.n : Int) - (S4.used : Int) = 5
  w0 : (Dk.fresh 8).waits.length ≤ 10
  w1 : D1.waits.length ≤ 10
  w2 : D2.waits.length ≤ 10
  w3 : D3.waits.length ≤ 10
  wc : (D3.crash []).waits.length ≤ 10
theorem aw_plain : ∃ D1 D2 D3 S0 S1 S2 S3 S4, AwS D1 D2 D3 S0 S1 S2 S3 S4 := by
  obtain ⟨a, b, h0⟩ := sys_fresh (m := 8) (frm := 1) (n := 6) (by omega) (by omega) (by omega)
  rw [b] at h0
  obtain ⟨c, h1⟩ := sys_app h0 (b := hello5) (by decide) (by decide)
  obtain ⟨d, h2⟩ := sys_sync h1
  obtain ⟨e, h3⟩ := sys_app h2 (b := lost4) (by decide) (by decide)
  obtain ⟨f, g, h4⟩ := sys_lost h3 (by decide) (by decide)
  have w1 := h1.waits_len
  have w2 := h2.waits_len
  have w3 := h3.waits_len
  refine ⟨_, _, _, _, _, _, _, _, ⟨a, b, c, d, e, f, g, ?_, rfl, rfl, rfl, rfl, by decide, ?_, ?_, ?_, Nat.zero_le _⟩⟩
  · rfl
  · exact Nat.le_trans w1 (by decide)
  · exact Nat.le_trans w2 (by decide)
  · exact Nat.le_trans w3 (by decide)

set_option maxRecDepth 100000 in
set_option maxHeartbeats 2000000 in
theorem awake_any (w : World) : Calls Try.prog 9 #[] w fun e w' => e = .returned (.bool true) ∧ Below w.heap.size w w' := by
  obtain ⟨D1, D2, D3, S0, S1, S2, S3, S4, h⟩ := aw_plain
  obtain ⟨D0, hD0⟩ : ∃ D0, Dk.fresh 8 = D0 := ⟨_, rfl⟩
  obtain ⟨D4, hD4⟩ : ∃ D4, D3.crash [] = D4 := ⟨_, rfl⟩
  have hnew := qd_new w w (Below.refl _ _) 8 (by omega) (by omega)
  unfold NewDd at hnew
  obtain ⟨o1, o2, a1, sy, a2, o3, o4, r, len, l, sure, free, w0, w1, w2, w3, wc⟩ := h
  rw [hD0] at o1 o2 a1 w0 hnew
  rw [hD4] at o3 o4 wc
  have HNEW := Go.Lib.hid hnew
  have O1 := Go.Lib.hid o1
  have O2 := Go.Lib.hid o2
  have A1 := Go.Lib.hid a1
  have SY := Go.Lib.hid sy
  have A2 := Go.Lib.hid a2
  have O3 := Go.Lib.hid o3
  have O4 := Go.Lib.hid o4
  have R := Go.Lib.hid r
  have LEN := Go.Lib.hid len
  have LL := Go.Lib.hid l
  have SURE := Go.Lib.hid sure
  have FREE := Go.Lib.hid free
  have HC := Go.Lib.hid hD4
  clear o1 o2 a1 sy a2 o3 o4 r len l sure free hnew hD0 hD4
  have kc := fun (w : World) (C : Array Value) (n c : Nat) => Lib.run_convert_bytes_const (P := Try.prog) w 23 5 C n c Try.underlying23 Try.underlying5
  have k5 : (5 : Nat) ≤ maxLen := by unfold maxLen; omega
  have k4 : (4 : Nat) ≤ maxLen := by unfold maxLen; omega
  go_enter Try.func9, Try.ntmps9
  go_wp2_with fail
  go_at_call 10
  refine HNEW.out.mono ?_
  rintro e wa ⟨p, rfl, hD⟩
  go_wp2_with fail
  go_at_call 11
  refine (qs_open w wa p D0 1 6 hD (by omega) (by constructor <;> omega) (by constructor <;> omega)).mono ?_
  rintro e wb (⟨h, _⟩ | ⟨_, q, rfl, hS⟩)
  · exact absurd O1.out h
  rw [O2.out] at hS
  go_wp2_with fail
  go_at_call 12
  refine (qs_app w wb _ q p D0 S0 _ 5 _ hello5 hS ((Below.refl _ _).alloc (Nat.le_refl _) _) (offW_new rfl rfl k5 rfl) (by omega) (by omega)).mono ?_
  rw [A1.out]
  rintro e wc1 ⟨rfl, hS1⟩
  go_wp2_with fail
  go_at_call 13
  refine (qs_sync w _ q p D1 S1 hS1 (by omega)).mono ?_
  rw [SY.out]
  rintro e wd ⟨rfl, hS2⟩
  go_wp2_with fail
  go_at_call 12
  refine (qs_app w wd _ q p D2 S2 _ 4 _ lost4 hS2 ((Below.refl _ _).alloc (Nat.le_refl _) _) (offW_new rfl rfl k4 rfl) (by omega) (by omega)).mono ?_
  rw [A2.out]
  rintro e we ⟨rfl, hS3⟩
  go_wp2_with fail
  go_at_call 14
  refine (qd_crash w we we p D3 _ _ _ [] hS3.dd (Below.refl _ _) (offW_nil _ _ _) (by omega)).mono ?_
  rw [HC.out]
  rintro e wf ⟨rfl, hD4⟩
  go_wp2_with fail
  go_at_call 11
  refine (qs_open w wf p D4 1 6 hD4 (by omega) (by constructor <;> omega) (by constructor <;> omega)).mono ?_
  rintro e wg (⟨h, _⟩ | ⟨_, q2, rfl, hS4⟩)
  · exact absurd O3.out h
  rw [O4.out] at hS4
  go_wp2_with fail
  go_at_call 17
  refine (qs_read w wg q2 p D4 S4 0 hS4 (by rw [LL.out]; decide)).mono ?_
  rw [R.out]
  rintro e wh ⟨ar, cr, rfl, hr, _, hS5⟩
  replace hr : NB.RdB wh ar 5 cr [104, 101, 108, 108, 111] := hr
  have hl5 : hello5.length = 5 := rfl
  simp only [hl5]
  go_wp2_with (first
    | (go_at_call 15; refine (qs_len w _ q2 p D4 S4 hS5).mono ?_; rw [LEN.out]; rintro e w' ⟨rfl, e2⟩; subst w')
    | (go_at_call 16; refine (qs_sure w _ q2 p D4 S4 hS5).mono ?_; rw [SURE.out]; rintro e w' ⟨rfl, e2⟩; subst w')
    | (go_at_call 18; refine (qs_free w _ q2 p D4 S4 hS5).mono ?_; rw [FREE.out]; rintro e wi ⟨rfl, hS6, hbi⟩)
    | (refine NB.wpList_conv_str rfl 23 9 (.tmp 82) rfl Try.underlying23 Try.underlying5 Try.underlying9 ar 5 cr [104, 101, 108, 108, 111] rfl (Rd.below hr hbi) ?_)
    | (go_at_call 20; refine (need_any _ 50 (by omega)).mono ?_; rintro e w' ⟨rfl, e2⟩; subst w'))
  go_ret
  exact ⟨rfl, hS6.low⟩
end Go.Proofs.Ytmgkaoenjnnlmaa
