/- The walk for the statement FrameGets. -/
import Derived.Test.YtcipghogcehfnaaFrw
import Derived.Test.YtcipghogcehfnaaFrf
namespace Go.Proofs.Ytcipghogcehfnaa
open Go.RowKit
open Go.NB (Rd Kp Stp Off Dis Rr encU oneB dB Rw digs)

theorem flat2_at {α : Type} (p q : α → Value) : ∀ (l : List α) (i : Nat) (x : α), l[i]? = some x → (l.flatMap fun x => [p x, q x])[i * 2]? = some (p x) ∧ (l.flatMap fun x => [p x, q x])[i * 2 + 1]? = some (q x)
  | [], i, x, h => by simp at h
  | y :: l, 0, x, h => by simp at h; subst h; simp
  | y :: l, i + 1, x, h => by
    have := flat2_at p q l i x (by simpa using h)
    rw [List.flatMap_cons, show (i + 1) * 2 = i * 2 + 2 by omega]
    simpa using this
theorem its_at (l : List It) (i : Nat) (x : It) (h : l[i]? = some x) : (itsV l)[i * 2]? = some (.int .u8 (x.k.toNat : Int)) ∧ (itsV l)[i * 2 + 1]? = some (.slice x.a x.n x.c) :=
  flat2_at (fun x : It => Value.int .u8 (x.k.toNat : Int)) (fun x => .slice x.a x.n x.c) l i x h
theorem rfs_at (l : List Fr) (i : Nat) (x : Fr) (h : l[i]? = some x) : (rfsV l)[i * 2]? = some (.int .u8 (x.1.toNat : Int)) ∧ (rfsV l)[i * 2 + 1]? = some (.string ⟨x.2.toArray⟩) :=
  flat2_at (fun x : Fr => Value.int .u8 (x.1.toNat : Int)) (fun x => .string ⟨x.2.toArray⟩) l i x h

set_option maxRecDepth 100000 in
set_option maxHeartbeats 2000000 in
theorem law_fgets (w : World) (a : Option Addr) (n c : Nat) (b : List UInt8) (h : NB.RdB w a n c b) :
    Calls Try.prog 3 #[.slice a n c] w fun e w' => e = .returned (.bool true) ∧ Below w.heap.size w w' := by
  have hsz := NB.RdB.size h
  by_cases hn : n ≤ 500
  case neg =>
    have hnz : ¬ (n : Int) ≤ 500 := by omega
    go_enter Try.func3, Try.ntmps3
    go_wp2_with (go_at_call 9; refine (fawake_any _).mono ?_; rintro e w1 ⟨rfl, hb1⟩)
    go_ret
    exact ⟨rfl, hb1⟩
  have hnz : (n : Int) ≤ 500 := by omega
  have hbl : b.length ≤ 100000000 := by omega
  have HSZ := Go.Lib.hid hsz
  clear hsz
  go_enter Try.func3, Try.ntmps3
  go_wp2_with fail
  refine (fawake_any _).mono ?_
  rintro e w1 ⟨rfl, hb1⟩
  have R1 := h.below hb1
  go_wp2_with fail
  refine (fget_any _ a n c b R1 (by omega)).mono ?_
  have cr := fun w => rfget_any w b hbl
  unfold RGetE at cr
  generalize fgetM b = R at *
  obtain ⟨⟨k1, b1⟩, m1, e1⟩ := R
  rintro e w2 ⟨a2, n2, c2, rfl, r2, hb2, _⟩
  simp only at r2 cr ⊢
  have HCR := Go.Lib.hid cr; clear cr
  have rowF := NB.rw_new w2 [.int .u8 (k1.toNat : Int), .slice a2 n2 c2] 25 rfl
  have ob := oneB w2 (.cells #[.int .u8 (k1.toNat : Int), .slice a2 n2 c2] 25)
  simp only [List.toArray] at rowF
  have B2 := NB.bel (NB.bel hb1 hb2 hb1.size) ob (Nat.le_trans hb1.size hb2.size)
  have R2 := Rd.below (Rd.below R1 hb2) ob
  have r2' := Rd.below r2 ob
  clear r2 R1 ob hb2 hb1
  go_wp2_with (refine NB.wpList_conv_str rfl 22 9 (.tmp 28) rfl Try.underlying22 Try.underlying5 Try.underlying9 a n c b rfl R2 ?_)
  refine (HCR.out _).mono ?_
  rintro e w3 ⟨rfl, hb3⟩
  have rowF3 := rowF.below hb3
  have B3 := NB.bel B2 hb3 B2.size
  have R3 := Rd.below R2 hb3
  have r3 := Rd.below r2' hb3
  clear rowF B2 R2 r2' hb3 HCR
  have rowG := NB.rw_new w3 [.int .u8 (k1.toNat : Int), .string ⟨b1.toArray⟩] 30 rfl
  have ob := oneB w3 (.cells #[.int .u8 (k1.toNat : Int), .string ⟨b1.toArray⟩] 30)
  simp only [List.toArray] at rowG
  have rowF4 := rowF3.below ob
  have B4 := NB.bel B3 ob B3.size
  have R4 := Rd.below R3 ob
  have r4 := Rd.below r3 ob
  obtain ⟨c0, c1, _⟩ := NB.rw2 rowF4
  obtain ⟨d0, d1, _⟩ := NB.rw2 rowG
  clear rowF3 B3 R3 r3 ob rowG rowF4
  go_wp2_with (refine NB.wpList_conv_str rfl 22 9 (.tmp 41) rfl Try.underlying22 Try.underlying5 Try.underlying9 a2 n2 c2 b1 rfl r4 ?_)
  generalize w3.alloc (.cells #[.int .u8 (k1.toNat : Int), .string ⟨b1.toArray⟩] 30) = w4 at *
  clear c0 c1 d0 d1 r4
  refine (fall_any _ a n c b R4 (by omega)).mono ?_
  have cr := fun w => rfall_any w b hbl
  unfold RAllE at cr
  generalize fallM b = RA at *
  obtain ⟨fs, m2⟩ := RA
  rintro e w5 ⟨a5, c5, l5, rfl, hr5, hi5, hl5, hb5⟩
  simp only at hl5 cr ⊢
  subst hl5
  have HCR := Go.Lib.hid cr; clear cr
  have B5 := NB.bel B4 hb5 B4.size
  have R5 := Rd.below R4 hb5
  clear B4 R4 hb5
  go_wp2_with (refine NB.wpList_conv_str rfl 22 9 (.tmp 63) rfl Try.underlying22 Try.underlying5 Try.underlying9 a n c b rfl R5 ?_)
  refine (HCR.out _).mono ?_
  rintro e w6 ⟨a6, c6, rfl, hr6, hb6⟩
  simp only [List.length_map] at hr6 ⊢
  have B6 := NB.bel B5 hb6 B5.size
  have hr5' := hr5.below hb6
  have hi6 : ∀ x ∈ l5, NB.RdB w6 x.a x.n x.c x.b := fun x hx => Rd.below (hi5 x hx) hb6
  clear B5 R5 hb6 HCR hr5 hi5
  have hbd5 := Rd.bound hr5'
  have hbd6 := Rd.bound hr6
  have hle5 := hr5'.le
  have hle6 := hr6.le
  generalize hL : l5.length = L at *
  have HL := Go.Lib.hid hL; clear hL
  have HI := Go.Lib.hid hi6; clear hi6
  go_wp2_with fail
  go_loopw [14] (fun x wr => ∃ k : Nat, k ≤ L ∧ x = .int .i64 (k : Int) ∧ Below w6.heap.size w6 wr) (fun x _ => L - (intOf x).toNat)
  case atStart => exact ⟨0, by omega, rfl, Below.refl _ _⟩
  case round =>
    obtain ⟨k, hk, rfl, hB⟩ := hrel
    have B7 := NB.bel B6 hB B6.size
    by_cases hlt : k < L
    case neg =>
      have hki : ¬ (k : Int) < (L : Int) := by omega
      go_wp2_with fail
      go_ret
      exact ⟨rfl, B7⟩
    have hki : (k : Int) < (L : Int) := by omega
    obtain ⟨x, hx⟩ : ∃ x, l5[k]? = some x := ⟨_, List.getElem?_eq_getElem (by rw [HL.out]; exact hlt)⟩
    obtain ⟨v0, v1⟩ := its_at l5 k x hx
    obtain ⟨u0, u1⟩ := rfs_at (l5.map frOf) k (frOf x) (by rw [List.getElem?_map, hx]; rfl)
    obtain ⟨b5, o5, rfl, hc5⟩ := Rd.pos (hr5'.below hB) (by omega)
    obtain ⟨b6, o6, rfl, hc6⟩ := Rd.pos (hr6.below hB) (by omega)
    have p0 := hc5 _ _ v0
    have p1 := hc5 _ _ v1
    have q0 := hc6 _ _ u0
    have q1 := hc6 _ _ u1
    have rx := Rd.below (HI.out x (List.mem_of_getElem? hx)) hB
    simp only [frOf] at q0 q1
    rw [← Nat.add_assoc] at p1 q1
    clear v0 v1 u0 u1 hc5 hc6 hx hr5' hr6
    go_wp2_with fail
    refine NB.wp_region_t [] (by kernel_rfl) ?_
    have dd := dB wr
    have B8 := hB.drew
    have rx8 := Rd.below rx dd
    have lc := fun (b o : Nat) (v : Value) (hc : wr.cell? ⟨b, o, none⟩ = some v) => (dd.cell (p := ⟨b, o, none⟩) (World.block_lt_of_cell? wr _ hc)).trans hc
    replace p0 := lc _ _ _ p0; replace p1 := lc _ _ _ p1; replace q0 := lc _ _ _ q0; replace q1 := lc _ _ _ q1
    clear lc dd rx hB B7
    generalize wr.drew = w8 at *
    refine NB.t_p 0 rfl (by kernel_rfl) (fun K hK => ?_); go_simp; refine hK _ ?_; clear hK K
    refine NB.t_p 1 rfl (by kernel_rfl) (fun K hK => ?_); go_simp; refine hK _ ?_; clear hK K
    refine NB.t_p 2 rfl (by kernel_rfl) (fun K hK => ?_); go_simp; refine hK _ ?_; clear hK K
    refine NB.t_p 3 rfl (by kernel_rfl) (fun K hK => ?_); go_simp; refine hK _ ?_; clear hK K
    refine NB.t_r 4 [10, 11, 12, 13, 14, 15, 16, 17, 18, 19, 20, 21, 22, 23, 24] rfl (by kernel_rfl) (by kernel_rfl) (by go_simp) _ (fun w' hw' => NB.run_op_load rfl rfl Try.underlying5 rfl p0 hw') (fun K hK => ?_); go_simp; refine hK _ ?_; clear hK K
    refine NB.t_p 5 rfl (by kernel_rfl) (fun K hK => ?_); go_simp; refine hK _ ?_; clear hK K
    refine NB.t_p 6 rfl (by kernel_rfl) (fun K hK => ?_); go_simp; refine hK _ ?_; clear hK K
    refine NB.t_p 7 rfl (by kernel_rfl) (fun K hK => ?_); go_simp; refine hK _ ?_; clear hK K
    refine NB.t_p 8 rfl (by kernel_rfl) (fun K hK => ?_); go_simp; refine hK _ ?_; clear hK K
    refine NB.t_r 9 [10, 11, 12, 13, 14, 15, 16, 17, 18, 19, 20, 21, 22, 23, 24] rfl (by kernel_rfl) (by kernel_rfl) (by go_simp) _ (fun w' hw' => NB.run_op_load rfl rfl Try.underlying5 rfl q0 hw') (fun K hK => ?_); go_simp; refine hK _ ?_; clear hK K
    refine NB.t_p 10 rfl (by kernel_rfl) (fun K hK => ?_); go_simp; refine hK _ ?_; clear hK K
    refine NB.t_p 11 rfl (by kernel_rfl) (fun K hK => ?_); go_simp; refine hK _ ?_; clear hK K
    refine NB.t_p 12 rfl (by kernel_rfl) (fun K hK => ?_); go_simp; refine hK _ ?_; clear hK K
    refine NB.t_p 13 rfl (by kernel_rfl) (fun K hK => ?_); go_simp; refine hK _ ?_; clear hK K
    refine NB.t_p 14 rfl (by kernel_rfl) (fun K hK => ?_); go_simp; refine hK _ ?_; clear hK K
    refine NB.t_p 15 rfl (by kernel_rfl) (fun K hK => ?_); go_simp; refine hK _ ?_; clear hK K
    refine NB.t_r 16 [17, 23, 24] rfl (by kernel_rfl) (by kernel_rfl) (by go_simp) _ (fun w' hw' => NB.run_op_load rfl rfl Try.underlying22 rfl p1 hw') (fun K hK => ?_); go_simp; refine hK _ ?_; clear hK K
    refine NB.t_r 17 [23, 24] rfl (by kernel_rfl) (by kernel_rfl) (by go_simp) _ (fun w' hw' => NB.run_op_conv_str Try.underlying22 Try.underlying5 Try.underlying9 rfl rfl (Rd.below rx8 hw')) (fun K hK => ?_); go_simp; refine hK _ ?_; clear hK K
    refine NB.t_p 18 rfl (by kernel_rfl) (fun K hK => ?_); go_simp; refine hK _ ?_; clear hK K
    refine NB.t_p 19 rfl (by kernel_rfl) (fun K hK => ?_); go_simp; refine hK _ ?_; clear hK K
    refine NB.t_p 20 rfl (by kernel_rfl) (fun K hK => ?_); go_simp; refine hK _ ?_; clear hK K
    refine NB.t_p 21 rfl (by kernel_rfl) (fun K hK => ?_); go_simp; refine hK _ ?_; clear hK K
    refine NB.t_r 22 [23, 24] rfl (by kernel_rfl) (by kernel_rfl) (by go_simp) _ (fun w' hw' => NB.run_op_load rfl rfl Try.underlying9 rfl q1 hw') (fun K hK => ?_); go_simp; refine hK _ ?_; clear hK K
    refine NB.t_p 23 rfl (by kernel_rfl) (fun K hK => ?_); go_simp; refine hK _ ?_; clear hK K
    refine NB.t_p 24 rfl (by kernel_rfl) (fun K hK => ?_); go_simp; refine hK _ ?_; clear hK K
    refine NB.t_end (by kernel_rfl) ?_
    go_wp2_with fail
    go_roundw
    case rel => exact ⟨k + 1, by omega, by go_num, B8⟩
    case measure => simp [intOf]; omega
end Go.Proofs.Ytcipghogcehfnaa
