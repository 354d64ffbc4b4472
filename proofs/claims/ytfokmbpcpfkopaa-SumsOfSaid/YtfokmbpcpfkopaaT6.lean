import Derived.Test.YtfokmbpcpfkopaaT5
import Derived.Test.YtfokmbpcpfkopaaAny
namespace Go.Proofs.Ytfokmbpcpfkopaa
open Go.RowKit
open Go.NB.Crc
open Go.NB (Rd)

theorem flat_snoc {l : List (List UInt8)} {k : Nat} {t : List UInt8} (h : t = (l.take k).flatten) (hk : k < l.length) : t ++ l.getD k [] = (l.take (k+1)).flatten := by
  rw [h, NB.take_getD (d := []) l k hk, List.flatten_append]; simp

theorem rsealed_eq (l : List UInt8) : rsealedL l = sealedL l := by unfold rsealedL sealedL; rw [sum_eq]; simp
theorem rright_eq (l : List UInt8) : rrightL l = rightL l := by unfold rrightL rightL; rw [rsealed_eq]

set_option maxHeartbeats 400000 in
theorem law1 (w : World) (a : Option Addr) (n c : Nat) (l : List (List UInt8)) (a2 : Option Addr) (n2 c2 : Nat) (bs : List UInt8) (h : NB.RdBB w a n c l) (h2 : NB.RdB w a2 n2 c2 bs) :
    Calls Try.prog 3 #[.slice a n c, .slice a2 n2 c2] w fun e w' => e = .returned (.bool true) ∧ Below w.heap.size w w' := by
  obtain rfl : n2 = bs.length := (NB.RdB.size h2).symm
  have hbd := h.bound
  have hbd2 := Rd.bound h2
  by_cases h8 : n ≤ 8
  · by_cases h300 : bs.length ≤ 300
    · go_enter Try.func3, Try.ntmps3
      go_wp2_with (first | (go_at_call 8; refine (awake_any _).mono ?_; rintro e w1 ⟨rfl, hb1⟩))
      have h1 := h.below hb1
      go_loop [6, 7] (fun s i => ∃ k : Nat, k ≤ n ∧ i = .int .i64 k ∧ ∃ t, t = (l.take k).flatten ∧ t.length ≤ 200 * k ∧ s = .string ⟨t.toArray⟩) (fun _ i => n - (intOf i).toNat)
      case atStart => exact ⟨0, by omega, rfl, [], by simp, by simp, rfl⟩
      case round =>
        obtain ⟨k, hk, rfl, t, ht, htl, rfl⟩ := hrel
        have HT := Go.Lib.hid ht; clear ht
        by_cases hkn : k < n
        · obtain ⟨b, o, rfl, hcell⟩ := h1.pos (by omega)
          obtain ⟨ai, ni, ci, hc, hr⟩ := hcell k hkn
          have hrb := Rd.bound hr
          clear hcell
          have hx : t ++ l.getD k [] = (l.take (k+1)).flatten := flat_snoc HT.out (by rw [h1.len]; exact hkn)
          generalize l.getD k [] = x at *
          obtain rfl : ni = x.length := (NB.RdB.size hr).symm
          have HX := Go.Lib.hid hx; clear hx
          by_cases h200 : x.length ≤ 200
          · go_wp2_with (with_reducible refine NB.wpList_conv_str (o := ⟨some 36, _, _, _, _, _⟩) rfl 23 9 (.tmp 35) rfl Try.underlying23 Try.underlying5 Try.underlying9 _ _ _ _ rfl hr ?_)
            go_round
            case rel => exact ⟨k+1, by omega, by go_num, _, HX.out, by simp; omega, rfl⟩
            case measure => simp [intOf]; omega
          · go_wp2
            go_ret
            exact ⟨rfl, hb1⟩
        · obtain rfl : k = n := by omega
          have ht := HT.out
          rw [List.take_of_length_le (by rw [h1.len]; omega)] at ht
          clear HT
          have HT := Go.Lib.hid ht; clear ht
          go_wp2
          have h2' := Rd.below h2 hb1
          have hq : rsum t = sumR l := by rw [sum_eq, HT.out]
          have hq2 := rsealed_eq bs
          have hq3 := rright_eq bs
          have htl' : t.length ≤ 9223372036854775807 := by omega
          have hbl : bs.length ≤ 140737488355328 := by omega
          refine NB.wp_region_m (by kernel_rfl) ?_
          have hb1d := hb1.drew
          have h1d : NB.RdBB w1.drew a k c l := h1.below (Below.refl _ _).drew
          have h2d : NB.RdB w1.drew a2 bs.length c2 bs := Rd.below h2 hb1d
          clear h1 hb1 h h2
          generalize w1.drew = v1 at *
          refine NB.any_p 0 rfl (by kernel_rfl) (fun K hK => ?_); go_simp; refine hK _ ?_; clear hK K
          refine NB.any_p 2 rfl (by kernel_rfl) (fun K hK => ?_); go_simp; refine hK _ ?_; clear hK K
          refine NB.any_e 1 rfl (by kernel_rfl) (fun K hK => ?_); unfold NB.moves; go_simp; refine (of_any _ _ _ _ l h1d).mono ?_; rintro e w2 ⟨rfl, hb2⟩; refine ⟨_, rfl, hb2, hK _ _ ?_⟩; clear hK K
          refine NB.any_e 3 rfl (by kernel_rfl) (fun K hK => ?_); unfold NB.moves; go_simp; refine (rof_l _ _ htl').mono ?_; rintro e w3 ⟨rfl, rfl⟩; refine ⟨_, rfl, Below.refl _ _, hK _ _ ?_⟩; clear hK K
          refine NB.any_p 4 rfl (by kernel_rfl) (fun K hK => ?_); go_simp; refine hK _ ?_; clear hK K
          refine NB.any_p 5 rfl (by kernel_rfl) (fun K hK => ?_); go_simp; refine hK _ ?_; clear hK K
          refine NB.any_p 6 rfl (by kernel_rfl) (fun K hK => ?_); go_simp; refine hK _ ?_; clear hK K
          refine NB.any_p 9 rfl (by kernel_rfl) (fun K hK => ?_); go_simp; refine hK _ ?_; clear hK K
          have h2e := Rd.below h2d hb2
          refine NB.any_r 10 rfl (by kernel_rfl) rfl _ (fun w' hw' => NB.run_op_conv_str Try.underlying23 Try.underlying5 Try.underlying9 rfl rfl (Rd.below h2e hw')) (fun K hK => ?_); go_simp; refine hK _ ?_; clear hK K
          refine NB.any_e 7 rfl (by kernel_rfl) (fun K hK => ?_); unfold NB.moves; go_simp; refine (sealed_any _ _ _ _ _ h2e (by omega)).mono ?_; rintro e w4 ⟨a3, c3, rfl, ho4, hb4⟩; refine ⟨_, rfl, hb4, hK _ _ ?_⟩; clear hK K
          obtain ⟨a5, c5, e5, hr5, hf5, _⟩ := NB.rd_of_own ho4; cases e5
          refine NB.any_r 8 rfl (by kernel_rfl) rfl _ (fun w' hw' => NB.run_op_conv_str Try.underlying23 Try.underlying5 Try.underlying9 rfl rfl (Rd.below hr5 hw')) (fun K hK => ?_); go_simp; refine hK _ ?_; clear hK K
          refine NB.any_e 11 rfl (by kernel_rfl) (fun K hK => ?_); unfold NB.moves; go_simp; refine (rsealed_any _ _ hbl).mono ?_; rintro e w5 ⟨rfl, hb5⟩; refine ⟨_, rfl, hb5, hK _ _ ?_⟩; clear hK K
          have B5 := hb1d.trans ((hb2.trans ((hb4.trans (hb5.mono hb4.size)).mono hb2.size)).mono hb1d.size)
          have h2f := Rd.below (Rd.below h2e hb4) hb5
          clear hb2 hb4 hb5 ho4 hr5 hf5 hb1d h2e h2d h1d
          refine NB.any_p 12 rfl (by kernel_rfl) (fun K hK => ?_); go_simp; refine hK _ ?_; clear hK K
          refine NB.any_p 13 rfl (by kernel_rfl) (fun K hK => ?_); go_simp; refine hK _ ?_; clear hK K
          refine NB.any_p 14 rfl (by kernel_rfl) (fun K hK => ?_); go_simp; refine hK _ ?_; clear hK K
          refine NB.any_p 15 rfl (by kernel_rfl) (fun K hK => ?_); go_simp; refine hK _ ?_; clear hK K
          refine NB.any_p 17 rfl (by kernel_rfl) (fun K hK => ?_); go_simp; refine hK _ ?_; clear hK K
          refine NB.any_r 18 rfl (by kernel_rfl) rfl _ (fun w' hw' => NB.run_op_conv_str Try.underlying23 Try.underlying5 Try.underlying9 rfl rfl (Rd.below h2f hw')) (fun K hK => ?_); go_simp; refine hK _ ?_; clear hK K
          refine NB.any_e 16 rfl (by kernel_rfl) (fun K hK => ?_); unfold NB.moves; go_simp; refine (right_any _ _ _ _ _ h2f hbl).mono ?_; rintro e w6 ⟨rfl, hb6⟩; refine ⟨_, rfl, hb6, hK _ _ ?_⟩; clear hK K
          refine NB.any_e 19 rfl (by kernel_rfl) (fun K hK => ?_); unfold NB.moves; go_simp; refine (rright_any _ _ hbl).mono ?_; rintro e w7 ⟨rfl, hb7⟩; refine ⟨_, rfl, hb7, hK _ _ ?_⟩; clear hK K
          refine NB.any_p 20 rfl (by kernel_rfl) (fun K hK => ?_); go_simp; refine hK _ ?_; clear hK K
          refine NB.any_p 21 rfl (by kernel_rfl) (fun K hK => ?_); go_simp; refine hK _ ?_; clear hK K
          refine NB.any_p 22 rfl (by kernel_rfl) (fun K hK => ?_); go_simp; refine hK _ ?_; clear hK K
          refine NB.any_end (by kernel_rfl) ?_
          have B7 := B5.trans ((hb6.trans (hb7.mono hb6.size)).mono B5.size)
          go_wp2
          go_ret
          exact ⟨rfl, B7⟩
    · go_enter Try.func3, Try.ntmps3
      go_wp2_with (first | (go_at_call 8; refine (awake_any _).mono ?_; rintro e w1 ⟨rfl, hb1⟩))
      go_ret
      exact ⟨rfl, hb1⟩
  · go_enter Try.func3, Try.ntmps3
    go_wp2_with (first | (go_at_call 8; refine (awake_any _).mono ?_; rintro e w1 ⟨rfl, hb1⟩))
    go_ret
    exact ⟨rfl, hb1⟩
end Go.Proofs.Ytfokmbpcpfkopaa
