/- The walk for the statement FramePuts. -/
import Derived.Test.YtcipghogcehfnaaFrw
import Derived.Test.YtcipghogcehfnaaFre
namespace Go.Proofs.Ytcipghogcehfnaa
open Go.RowKit
open Go.NB (Rd Kp Stp Off Dis Rr encU oneB dB Rw digs)

set_option maxHeartbeats 2000000 in
theorem law_fputs (w : World) (k : Int) (a : Option Addr) (n c : Nat) (b : List UInt8) (a' : Option Addr) (n' c' : Nat) (t : List UInt8) (hk : (Lit.int .u8 k).wf = true) (h : NB.RdB w a n c b) (h' : NB.RdB w a' n' c' t) :
    Calls Try.prog 4 #[.int .u8 k, .slice a n c, .slice a' n' c'] w fun e w' => e = .returned (.bool true) ∧ Below w.heap.size w w' := by
  have hsz := NB.RdB.size h
  have hsz' := NB.RdB.size h'
  obtain ⟨k, rfl⟩ : ∃ K : UInt8, k = (K.toNat : Int) := ⟨UInt8.ofNat k.toNat, (NB.u8_of_wf hk).symm⟩
  clear hk
  by_cases hn : n ≤ 400
  case neg =>
    have hnz : ¬ (n : Int) ≤ 400 := by omega
    go_enter Try.func4, Try.ntmps4
    go_wp2_with (go_at_call 9; refine (fawake_any _).mono ?_; rintro e w1 ⟨rfl, hb1⟩)
    go_ret
    exact ⟨rfl, hb1⟩
  have hnz : (n : Int) ≤ 400 := by omega
  by_cases hn' : n' ≤ 100
  case neg =>
    have hnz' : ¬ (n' : Int) ≤ 100 := by omega
    go_enter Try.func4, Try.ntmps4
    go_wp2_with (go_at_call 9; refine (fawake_any _).mono ?_; rintro e w1 ⟨rfl, hb1⟩)
    go_ret
    exact ⟨rfl, hb1⟩
  have hnz' : (n' : Int) ≤ 100 := by omega
  have cp := fun w h => fput_any w k a n c b h
  have cr := fun w => rfput_any w k b (by omega)
  rw [fput_is (f := (k, b)) (by simp only; omega)] at cp cr
  have hlen := fbL_len (k, b)
  have hE : (encU b.length).length ≤ 9 := NB.encU_len (by omega)
  have hgg := fget_put (k, b) (by simp only; omega) t
  simp only at hlen
  have hZ2 : (fbL (k, b)).length ≤ 500 := by omega
  have HCP := Go.Lib.hid cp
  have HCR := Go.Lib.hid cr
  have HSZ := Go.Lib.hid (And.intro hsz hsz')
  clear hlen hE cp cr hsz hsz'
  generalize fbL (k, b) = Z at *
  have HG := Go.Lib.hid hgg; clear hgg
  have hZi : (Z.length : Int) ≤ 500 := by omega
  go_enter Try.func4, Try.ntmps4
  go_wp2_with fail
  refine (fawake_any _).mono ?_
  rintro e w1 ⟨rfl, hb1⟩
  go_wp2_with fail
  refine (HCP.out _ (h.below hb1)).mono ?_
  rintro e w2 ⟨a2, c2, rfl, ho2, hb2⟩
  unfold NB.OwnB at ho2
  simp only at ho2 ⊢
  have B2 := NB.bel hb1 hb2 hb1.size
  obtain ⟨a2', c2', e2, R2, _, _⟩ := NB.rd_of_own ho2
  cases e2
  have R2 : NB.RdB w2 a2 Z.length c2 Z := R2
  clear ho2 hb1 hb2 HCP
  go_wp2_with (refine NB.wpList_conv_str rfl 22 9 (.tmp 36) rfl Try.underlying22 Try.underlying5 Try.underlying9 a n c b rfl (h.below B2) ?_)
  refine (HCR.out _).mono ?_
  rintro e w3 ⟨rfl, hb3⟩
  simp only
  have R3 := R2.below hb3
  have B3 := NB.bel B2 hb3 B2.size
  clear R2 B2 hb3 HCR
  have own0 : w3.ownsRow w.heap.size 5 1 (.slice none 0 0) 0 [] := ⟨by simp, .inl ⟨rfl, rfl⟩⟩
  go_wp2_with (first
    | (refine NB.wpList_conv_str rfl 22 9 (.tmp 42) rfl Try.underlying22 Try.underlying5 Try.underlying9 a2 Z.length c2 Z rfl R3 ?_)
    | (at_builtin; refine NB.wpList_append_rd rfl (.tmp 55) (.tmp 56) 22 rfl w.heap.size slTB _ 0 [] rfl own0 a2 Z.length c2 (Z.map NB.u8v) rfl R3 (NB.u8v_one Z) (by omega) (by unfold maxLen; omega) B3.size ?_; intro v4 w4 ho4 hg4; have hb4 : Below w3.heap.size w3 w4 := (Below.refl _ w3).grown hg4 (Nat.le_refl _) (by rintro k hk; cases hk); have B4 := NB.bel B3 hb4 B3.size; have r4 := h'.below B4; simp only [Nat.zero_add, List.nil_append] at ho4; clear hg4 own0 R3 B3 hb4)
    | (at_builtin; refine NB.wpList_append_rd rfl (.tmp 58) (.tmp 59) 22 rfl w.heap.size slTB v4 Z.length (Z.map NB.u8v) rfl ho4 a' n' c' (t.map NB.u8v) rfl r4 (NB.u8v_one t) (by omega) (by unfold maxLen; omega) B4.size ?_; intro v5 w5 ho5 hg5))
  have B5 : Below w.heap.size w w5 := B4.grown hg5 B4.size (fun k e => (ho4.lt k e).1)
  obtain ⟨a5, c5, rfl, hr5, _, _⟩ := NB.rd_of_own ho5
  have R5 : NB.RdB w5 a5 (Z.length + n') c5 (Z ++ t) := by show Rd 1 _ _ _ _ ((Z ++ t).map NB.u8v); rw [List.map_append]; exact hr5
  clear ho5 hg5 hr5 ho4 r4 B4
  go_wp2_with fail
  refine (fget_any _ a5 (Z.length + n') c5 (Z ++ t) R5 (by omega)).mono ?_
  rw [HG.out]
  rintro e w6 ⟨a6, n6, c6, rfl, r6, hb6, _⟩
  have hn6 := NB.RdB.size r6
  simp only at r6 hn6 ⊢
  rw [HSZ.out.1] at hn6
  subst hn6
  have B6 := NB.bel B5 hb6 B5.size
  have q6 := h.below B6
  have ob := oneB w6 (.cells #[.int .u8 (k.toNat : Int), .slice a6 n c6] 25)
  have r7 := Rd.below r6 ob
  have q7 := Rd.below q6 ob
  have B7 := NB.bel B6 ob B6.size
  clear r6 q6 ob B6 hb6 R5 B5 HG
  go_wp2_with (first
    | (refine NB.wpList_conv_str rfl 22 9 (.tmp 83) rfl Try.underlying22 Try.underlying5 Try.underlying9 a6 n c6 b rfl r7 ?_)
    | (refine NB.wpList_conv_str rfl 22 9 (.tmp 85) rfl Try.underlying22 Try.underlying5 Try.underlying9 a n c b rfl q7 ?_))
  go_ret
  exact ⟨by simp, B7⟩
end Go.Proofs.Ytcipghogcehfnaa
