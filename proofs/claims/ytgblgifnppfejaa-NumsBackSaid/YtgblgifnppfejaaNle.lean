/- The walk for the statement NumsPut. -/
import Derived.Test.YtgblgifnppfejaaNla
import Derived.Test.YtgblgifnppfejaaNump
import Derived.Test.YtgblgifnppfejaaNre
import Derived.Test.YtgblgifnppfejaaOpenu
namespace Go.Proofs.Ytgblgifnppfejaa
open Go.RowKit
open Go.NB (Rd Kp Stp Off Dis Rr footR val encU encB digs RdU)

/-- What is put for a row of numbers. -/
def encL (xs : List Nat) : List UInt8 := xs.flatMap encU
theorem encL_len (xs : List Nat) (h : ∀ x ∈ xs, x < 18446744073709551616) : (encL xs).length ≤ 9 * xs.length := by
  induction xs with
  | nil => simp [encL]
  | cons x xs ih =>
    have h1 := NB.encU_len (h x List.mem_cons_self)
    have h2 := ih (fun y hy => h y (List.mem_cons_of_mem _ hy))
    have e : encL (x :: xs) = encU x ++ encL xs := by simp [encL]
    rw [e, List.length_append, List.length_cons]
    omega
theorem encL_snoc (xs : List Nat) (k : Nat) (h : k < xs.length) : encL (xs.take (k + 1)) = encL (xs.take k) ++ encU (xs.getD k 0) := by
  rw [NB.take_getD xs k h (d := 0), encL, List.flatMap_append]
  simp [encL]

set_option maxHeartbeats 2000000 in
theorem law_put (w : World) (a : Option Addr) (n c : Nat) (xs : List Nat) (a' : Option Addr) (n' c' : Nat) (b : List UInt8) (h : RdU w a n c xs) (h' : NB.RdB w a' n' c' b) :
    Calls Try.prog 3 #[.slice a n c, .slice a' n' c'] w fun e w' => e = .returned (.bool true) ∧ Below w.heap.size w w' := by
  have hbd := Rd.bound h.1
  have hbd' := Rd.bound h'
  have hsz := h.size
  have hsz' := NB.RdB.size h'
  by_cases hn : n ≤ 40
  · have hnz : (n : Int) ≤ 40 := by omega
    by_cases hn' : n' ≤ 300
    · have hnz' : (n' : Int) ≤ 300 := by omega
      go_enter Try.func3, Try.ntmps3
      go_wp2_with (first
        | (go_at_call 9; refine (awake_any _).mono ?_; rintro e w1 ⟨rfl, hb1⟩)
        | (go_at_call 10; refine (wnew_any _).mono ?_; rintro e w2 ⟨p, F2, rfl, hW2, hb2⟩; have B2 := NB.bel hb1 hb2 hb1.size))
      have hbase := hb1.size
      clear hb2 hb1
      have H := Go.Lib.hid h; clear h
      go_loopw [7, 8] (fun s i wr => ∃ (k : Nat) (F : Nat → Prop), k ≤ n ∧ i = .int .i64 k ∧ s = .string ⟨(encL (xs.take k)).toArray⟩ ∧ HasW wr w1.heap.size p F (encL (xs.take k)) ∧ Below w.heap.size w wr) (fun _ i _ => n - (intOf i).toNat)
      case atStart => exact ⟨0, F2, by omega, rfl, rfl, hW2, B2⟩
      case round =>
        clear B2 hW2
        obtain ⟨k, F, hk, rfl, rfl, hW, hB⟩ := hrel
        have hl := encL_len (xs.take k) (fun x hx => H.out.2 x (List.mem_of_mem_take hx))
        rw [List.length_take] at hl
        by_cases hlt : k < n
        · obtain ⟨b3, o3, qw, ha⟩ := NB.RdU.at H.out k hlt
          subst ha
          have lw := World.block_lt_of_cell? w _ qw
          have hcw : ∀ W, Below w.heap.size w W → W.cell? ⟨b3, o3 + k, none⟩ = some (.int .u64 ((xs.getD k 0 : Nat) : Int)) := fun W hW => (hW.cell lw).trans qw
          have hs := encL_snoc xs k (by omega)
          have hx : xs.getD k 0 < 18446744073709551616 := by
            rw [List.getD, List.getElem?_eq_getElem (by omega)]
            exact H.out.2 _ (List.getElem_mem _)
          generalize xs.getD k 0 = x at *
          have hel := NB.encU_len hx
          generalize hE : encL (xs.take k) = E at *
          have HS := Go.Lib.hid hs; clear hs
          have hki : (k : Int) < (n : Int) := by omega
          have q3 := hcw wr hB
          have HC := Go.Lib.hid hcw; clear hcw qw
          go_wp2_with (first
            | (go_at_call 11; refine (wuint_any _ _ _ _ _ x hx hW (by omega)).mono ?_; rintro e w4 ⟨rfl, F4, hW4, hS4⟩; have B4 := NB.bel hB (hW.low hS4) hbase; have q4 := HC.out w4 B4)
            | (go_at_call 12; refine (ruintR_any _ x hx).mono ?_; rintro e w5 ⟨rfl, hb5⟩))
          go_roundw
          case rel => exact ⟨k + 1, F4, by omega, by go_num, by rw [HS.out], by rw [HS.out]; exact hW4.below hb5, NB.bel B4 hb5 B4.size⟩
          case measure => simp [intOf]; omega
        · obtain rfl : k = n := by omega
          generalize encL (xs.take k) = E at *
          have hel := NB.encU_len (x := b.length) (by omega)
          have hbl : (encB b).length ≤ 9 + n' := by rw [encB, List.length_append]; omega
          have hs1 : ¬ 9223372036854775807 < E.length + (encB b).length := by omega
          have hs2 : ¬ 9223372036854775807 < E.length + (encB b).length + n' := by omega
          obtain ⟨T, hT⟩ : ∃ T, E ++ (encB b ++ b) = T := ⟨_, rfl⟩
          have hTl : T.length ≤ 100000000000 := by rw [← hT, List.length_append, List.length_append]; omega
          have HT := Go.Lib.hid hT; have HS1 := Go.Lib.hid hs1; have HS2 := Go.Lib.hid hs2; clear hT hs1 hs2
          go_wp2_with (first
            | (go_at_call 13; refine (wbytes_any _ _ _ _ _ _ _ _ _ hW (Off.old h' hB (fun k hk => Nat.le_trans hbase (hW.foot k hk).1)) (by omega)).mono ?_; rintro e w4 ⟨rfl, F4, hW4, hS4⟩; have B4 := NB.bel hB (hW.low hS4) hbase))
          refine (wraw_any _ _ _ _ _ _ _ _ _ hW4 (h'.below B4) (by rw [List.length_append]; omega)).mono ?_
          rw [List.append_assoc, HT.out]
          rintro e w5 ⟨rfl, F5, hW5, hS5⟩
          have B5 := NB.bel B4 (hW4.low hS5) hbase
          go_wp2_with fail
          refine (wuint_nil _ _).mono ?_
          rintro e w' ⟨rfl, e2⟩
          subst w'
          go_wp2_with fail
          refine (wraw_nil _ _).mono ?_
          rintro e w' ⟨rfl, e2⟩
          subst w'
          go_wp2_with fail
          have hs1 := HS1.out; have hs2 := HS2.out
          have RB := Go.Lib.hid (h'.below B5.drew)
          have hW6 := hW5.below (Below.refl _ w5).drew
          have hB6 := B5.drew
          clear hW5 hW4 hW hS4 hS5 hB B4 B5 h'
          refine NB.wp_region_m (by kernel_rfl) ?_
          generalize w5.drew = v at *
          refine NB.any_p 0 rfl (by kernel_rfl) (fun K hK => ?_); go_simp; refine hK _ ?_; clear hK K
          refine NB.any_p 3 rfl (by kernel_rfl) (fun K hK => ?_); go_simp; refine hK _ ?_; clear hK K
          refine NB.any_p 4 rfl (by kernel_rfl) (fun K hK => ?_); go_simp; refine hK _ ?_; clear hK K
          refine NB.any_r 5 rfl (by kernel_rfl) rfl _ (fun w' hw' => NB.run_op_conv_str Try.underlying23 Try.underlying5 Try.underlying9 rfl rfl (Rd.below RB.out hw')) (fun K hK => ?_); go_simp; refine hK _ ?_; clear hK K
          refine NB.any_p 8 rfl (by kernel_rfl) (fun K hK => ?_); go_simp; refine hK _ ?_; clear hK K
          refine NB.any_r 9 rfl (by kernel_rfl) rfl _ (fun w' hw' => NB.run_op_conv_str Try.underlying23 Try.underlying5 Try.underlying9 rfl rfl (Rd.below RB.out hw')) (fun K hK => ?_); go_simp; refine hK _ ?_; clear hK K
          refine NB.any_e 1 rfl (by kernel_rfl) (fun K hK => ?_); unfold NB.moves; go_simp; refine (wout_any _ _ _ _ _ hW6 hTl).mono ?_; rintro e w7 ⟨a7, c7, rfl, ho7, hb7⟩; refine ⟨_, rfl, hb7, hK _ _ ?_⟩; clear hK K
          have r7 := (Off.fresh (F := fun _ => False) ho7 (fun _ h => h.elim)).rd
          have B7 := NB.bel hB6 hb7 hB6.size
          refine NB.any_r 2 rfl (by kernel_rfl) rfl _ (fun w' hw' => NB.run_op_conv_str Try.underlying23 Try.underlying5 Try.underlying9 rfl rfl (Rd.below r7 hw')) (fun K hK => ?_); go_simp; refine hK _ ?_; clear hK K
          refine NB.any_e 6 rfl (by kernel_rfl) (fun K hK => ?_); unfold NB.moves; go_simp; refine (rbytesR_any _ b (by omega)).mono ?_; rintro e w8 ⟨rfl, hb8⟩; refine ⟨_, rfl, hb8, hK _ _ ?_⟩; clear hK K
          have B8 := NB.bel B7 hb8 B7.size
          refine NB.any_p 7 rfl (by kernel_rfl) (fun K hK => ?_); go_simp; refine hK _ ?_; clear hK K
          refine NB.any_p 10 rfl (by kernel_rfl) (fun K hK => ?_); go_simp; refine hK _ ?_; clear hK K
          rw [HT.out]
          refine NB.any_p 11 rfl (by kernel_rfl) (fun K hK => ?_); go_simp; refine hK _ ?_; clear hK K
          refine NB.any_p 12 rfl (by kernel_rfl) (fun K hK => ?_); go_simp; refine hK _ ?_; clear hK K
          refine NB.any_p 13 rfl (by kernel_rfl) (fun K hK => ?_); go_simp; refine hK _ ?_; clear hK K
          refine NB.any_e 14 rfl (by kernel_rfl) (fun K hK => ?_); unfold NB.moves; go_simp; refine (wout_nil _).mono ?_; rintro e w' ⟨rfl, e2⟩; subst w'; refine ⟨_, rfl, Below.refl _ _, hK _ _ ?_⟩; clear hK K
          refine NB.any_p 15 rfl (by kernel_rfl) (fun K hK => ?_); go_simp; refine hK _ ?_; clear hK K
          refine NB.any_p 16 rfl (by kernel_rfl) (fun K hK => ?_); go_simp; refine hK _ ?_; clear hK K
          refine NB.any_p 17 rfl (by kernel_rfl) (fun K hK => ?_); go_simp; refine hK _ ?_; clear hK K
          refine NB.any_p 18 rfl (by kernel_rfl) (fun K hK => ?_); go_simp; refine hK _ ?_; clear hK K
          refine NB.any_end (by kernel_rfl) ?_
          go_wp2_with fail
          go_ret
          exact ⟨rfl, B8⟩
    · have hnz' : ¬ (n' : Int) ≤ 300 := by omega
      go_enter Try.func3, Try.ntmps3
      go_wp2_with (first
          | (go_at_call 9; refine (awake_any _).mono ?_; rintro e w1 ⟨rfl, hb1⟩))
      go_ret
      exact ⟨rfl, hb1⟩
  · have hnz : ¬ (n : Int) ≤ 40 := by omega
    go_enter Try.func3, Try.ntmps3
    go_wp2_with (first
        | (go_at_call 9; refine (awake_any _).mono ?_; rintro e w1 ⟨rfl, hb1⟩))
    go_ret
    exact ⟨rfl, hb1⟩
end Go.Proofs.Ytgblgifnppfejaa
