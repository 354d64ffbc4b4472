/- The walk for the statement NumsOneSaid: for every input the law NumsOne returns true and leaves its arguments as they were. No condition. -/
import Derived.Test.YtgblgifnppfejaaNla
import Derived.Test.YtgblgifnppfejaaNump
namespace Go.Proofs.Ytgblgifnppfejaa
open Go.ChangeShapes Go.WideShapes Go.ChangeAt Go.RowKit
open Go.ChangeMaps (open_string shut_string)
open Go.NB (Rd Kp Stp Off Dis Rr footR val encU encB digs)

set_option maxHeartbeats 2000000 in
theorem law_one (w : World) (a : Option Addr) (n c : Nat) (b : List UInt8) (h : NB.RdB w a n c b) :
    Calls Try.prog 6 #[.slice a n c] w fun e w' => e = .returned (.bool true) ∧ Below w.heap.size w w' := by
  have hbd := Rd.bound h
  have hsz := NB.RdB.size h
  by_cases hn : n ≤ 40
  · rcases Rr.uint_cases b with ⟨x, l, hx, hbx, hu⟩ | ⟨he, h0⟩
    · go_enter Try.func6, Try.ntmps6
      go_wp2_with (first
        | (go_at_call 9; refine (awake_any _).mono ?_; rintro e w1 ⟨rfl, hb1⟩)
        | (go_at_call 17; refine (rnew_any _ _ _ _ _ (h.below hb1) (by omega)).mono ?_; rintro e w2 ⟨q, F2, rfl, hR2, hb2⟩)
        | (go_at_call 18; refine (ruint_any _ _ _ _ _ hR2).mono ?_; rw [hu]; rintro e w3 ⟨rfl, F3, hR3, hS3⟩)
        | (go_at_call 24; refine (rerr_any _ _ _ _ _ hR3).mono ?_; rintro e w' ⟨rfl, e2⟩; subst w')
        | (go_at_call 10; refine (wnew_any _).mono ?_; rintro e w4 ⟨p, F4, rfl, hW4, hb4⟩)
        | (go_at_call 11; refine (wuint_any _ _ _ _ _ x hx hW4 (by simp)).mono ?_; rw [List.nil_append]; rintro e w5 ⟨rfl, F5, hW5, hS5⟩)
        | (go_at_call 15; refine (wout_any _ _ _ _ _ hW5 (by have := NB.encU_len hx; omega)).mono ?_; rintro e w6 ⟨a6, c6, rfl, ho6, hb6⟩))
      have B2 := NB.bel hb1 hb2 hb1.size
      have B3 := NB.bel B2 (hR2.low hS3) hb1.size
      have B4 := NB.bel B3 hb4 B3.size
      have B5 := NB.bel B4 (hW4.low hS5) B3.size
      have B6 := NB.bel B5 hb6 B5.size
      have r6 := (Off.fresh (F := fun _ => False) ho6 (fun _ h => h.elim)).rd
      have rb := h.below B6
      have hle : (encU x).length ≤ n := by rw [← hsz, hbx]; simp
      have htk : b.take (encU x).length = encU x := by rw [hbx]; simp
      have hc6 := r6.le
      have hnc := h.le
      clear hS3 hR2 hR3 hW4 hW5 hS5 ho6 hb6 hb4 hb2 hb1 B2 B3 B4 B5 h hu hbx hsz
      generalize hm : (encU x).length = m at *
      have HTK := Go.Lib.hid htk; have HM := Go.Lib.hid hm; clear htk hm
      have hd : decide (m ≤ n) = true := by simpa using hle
      have hmc : m ≤ c := by omega
      have RB := Go.Lib.hid (Rd.below rb (Below.refl _ w6).drew)
      have R6 := Go.Lib.hid (Rd.below r6 (Below.refl _ w6).drew)
      have hB := Go.Lib.hid B6.drew
      clear B6 rb r6
      refine NB.wp_region_m (by kernel_rfl) ?_
      generalize w6.drew = v at *
      refine NB.any_p 0 rfl (by kernel_rfl) (fun K hK => ?_); go_simp; refine hK _ ?_; clear hK K
      refine NB.any_p 1 rfl (by kernel_rfl) (fun K hK => ?_); go_simp; refine hK _ ?_; clear hK K
      refine NB.any_p 2 rfl (by kernel_rfl) (fun K hK => ?_); go_simp; refine hK _ ?_; clear hK K
      refine NB.any_p 3 rfl (by kernel_rfl) (fun K hK => ?_); go_simp; refine hK _ ?_; clear hK K
      refine NB.any_p 4 rfl (by kernel_rfl) (fun K hK => ?_); go_simp; refine hK _ ?_; clear hK K
      refine NB.any_p 5 rfl (by kernel_rfl) (fun K hK => ?_); go_simp; refine hK _ ?_; clear hK K
      refine NB.any_p 6 rfl (by kernel_rfl) (fun K hK => ?_); go_simp; refine hK _ ?_; clear hK K
      refine NB.any_r 7 rfl (by kernel_rfl) rfl _ (fun w' hw' => NB.run_op_conv_str Try.underlying23 Try.underlying5 Try.underlying9 rfl rfl (Rd.below R6.out hw')) (fun K hK => ?_); go_simp; refine hK _ ?_; clear hK K
      refine NB.any_p 8 rfl (by kernel_rfl) (fun K hK => ?_); go_simp; refine hK _ ?_; clear hK K
      refine NB.any_p 9 rfl (by kernel_rfl) (fun K hK => ?_); go_simp; refine hK _ ?_; clear hK K
      refine NB.any_p 10 rfl (by kernel_rfl) (fun K hK => ?_); go_simp; refine hK _ ?_; clear hK K
      refine NB.any_p 11 rfl (by kernel_rfl) (fun K hK => ?_); go_simp; refine hK _ ?_; clear hK K
      refine NB.any_r 12 rfl (by kernel_rfl) rfl _ (fun w' hw' => NB.run_op_conv_str Try.underlying23 Try.underlying5 Try.underlying9 rfl rfl (Rd.below (NB.rdB_cut RB.out m hle) hw')) (fun K hK => ?_); go_simp; refine hK _ ?_; clear hK K
      rw [HTK.out]
      refine NB.any_p 13 rfl (by kernel_rfl) (fun K hK => ?_); go_simp; refine hK _ ?_; clear hK K
      refine NB.any_p 14 rfl (by kernel_rfl) (fun K hK => ?_); go_simp; refine hK _ ?_; clear hK K
      refine NB.any_p 15 rfl (by kernel_rfl) (fun K hK => ?_); go_simp; refine hK _ ?_; clear hK K
      refine NB.any_end (by kernel_rfl) ?_
      go_wp2_with fail
      all_goals
        go_ret
        exact ⟨rfl, hB.out⟩
    · have hz : (((Rr.uint ⟨b, 0⟩).2 : Int) == 0) = true := by rw [h0]; rfl
      have he' : ((Rr.uint ⟨b, 0⟩).1.e != 0) = true := by simp [he]
      generalize hu : Rr.uint ⟨b, 0⟩ = u at *
      have HU := Go.Lib.hid hu; clear hu he h0
      go_enter Try.func6, Try.ntmps6
      go_wp2_with (first
        | (go_at_call 9; refine (awake_any _).mono ?_; rintro e w1 ⟨rfl, hb1⟩)
        | (go_at_call 17; refine (rnew_any _ _ _ _ _ (h.below hb1) (by omega)).mono ?_; rintro e w2 ⟨q, F2, rfl, hR2, hb2⟩)
        | (go_at_call 18; refine (ruint_any _ _ _ _ _ hR2).mono ?_; rw [HU.out]; rintro e w3 ⟨rfl, F3, hR3, hS3⟩)
        | (go_at_call 24; refine (rerr_any _ _ _ _ _ hR3).mono ?_; rintro e w' ⟨rfl, e2⟩; subst w'))
      go_ret
      exact ⟨rfl, NB.bel (NB.bel hb1 hb2 hb1.size) (hR2.low hS3) hb1.size⟩
  · have hn2 : ¬ (n : Int) ≤ 40 := by omega
    go_enter Try.func6, Try.ntmps6
    go_wp2_with (first
        | (go_at_call 9; refine (awake_any _).mono ?_; rintro e w1 ⟨rfl, hb1⟩))
    go_ret
    exact ⟨rfl, hb1⟩
end Go.Proofs.Ytgblgifnppfejaa
