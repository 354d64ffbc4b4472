/- The walk for the statement ConfUnlike. -/
import Derived.Test.YtnkmlopgfgdajaaCgc
import Derived.Test.YtnkmlopgfgdajaaRci
import Derived.Test.YtnkmlopgfgdajaaRcj
namespace Go.Proofs.Ytnkmlopgfgdajaa
open Go.RowKit
open Go.NB (Rd RdU Kp Stp Dis Rr Rw oneB dB encU)

theorem putM_ok {A : Cm} {X : List UInt8} {ex : Int} (h : putM A = (X, ex)) (he : ex = 0) : checkB A = true ∧ X = putL A := by
  cases hk : checkB A with
  | false => unfold putM at h; rw [hk, if_neg (by simp)] at h; injection h with _ hq; omega
  | true =>
    unfold putM at h
    rw [hk, if_pos rfl] at h
    injection h with hp _
    exact ⟨rfl, hp.symm⟩
theorem putM_iff1 {A B : Cm} (wa : WfC A) (wb : WfC B) (X : List UInt8) (ex : Int) (Y : List UInt8) (ey : Int) (hx : putM A = (X, ex)) (hy : putM B = (Y, ey)) (ex0 : ex = 0) (ey0 : ey = 0) : X = Y ↔ A = B := by
  obtain ⟨ka, rfl⟩ := putM_ok hx ex0
  obtain ⟨kb, rfl⟩ := putM_ok hy ey0
  exact ⟨putL_inj ka kb wa wb, fun e => by rw [e]⟩

set_option maxRecDepth 100000 in
set_option maxHeartbeats 8000000 in
theorem law_cunlike (w : World) (op1 sh1 sg1 : Int) (cl1 sq1 ps1 : Nat) (a1 : Option Addr) (n1 c1 : Nat) (L1 : List Iw) (op2 sh2 sg2 : Int) (cl2 sq2 ps2 : Nat) (a2 : Option Addr) (n2 c2 : Nat) (L2 : List Iw) (s : Bool)
    (hx1 : cl1 < 18446744073709551616 ∧ sq1 < 18446744073709551616 ∧ ps1 < 18446744073709551616) (h1 : RdW w a1 n1 c1 L1)
    (hx2 : cl2 < 18446744073709551616 ∧ sq2 < 18446744073709551616 ∧ ps2 < 18446744073709551616) (h2 : RdW w a2 n2 c2 L2) :
    Calls Try.prog 8 #[.agg #[.int .i64 op1, .int .u64 (cl1 : Int), .int .u64 (sq1 : Int), .int .i64 sh1, .int .i64 sg1, .int .u64 (ps1 : Int), .slice a1 n1 c1], .agg #[.int .i64 op2, .int .u64 (cl2 : Int), .int .u64 (sq2 : Int), .int .i64 sh2, .int .i64 sg2, .int .u64 (ps2 : Int), .slice a2 n2 c2], .bool s] w fun e w' => e = .returned (.bool true) ∧ Below w.heap.size w w' := by
  have hbd1 := Rd.bound h1.rd
  have hbd2 := Rd.bound h2.rd
  obtain ⟨u1, u2, u3⟩ := hx1
  obtain ⟨v1, v2, v3⟩ := hx2
  have ob1 := oneB w (.cells #[.int .i64 op1, .int .u64 (cl1 : Int), .int .u64 (sq1 : Int), .int .i64 sh1, .int .i64 sg1, .int .u64 (ps1 : Int), .slice a1 n1 c1] 27)
  have ob2 := oneB (w.alloc (.cells #[.int .i64 op1, .int .u64 (cl1 : Int), .int .u64 (sq1 : Int), .int .i64 sh1, .int .i64 sg1, .int .u64 (ps1 : Int), .slice a1 n1 c1] 27)) (.cells #[.int .i64 op2, .int .u64 (cl2 : Int), .int .u64 (sq2 : Int), .int .i64 sh2, .int .i64 sg2, .int .u64 (ps2 : Int), .slice a2 n2 c2] 27)
  have B0 := NB.bel ob1 ob2 ob1.size
  have q3 : Rw ((w.alloc (.cells #[.int .i64 op1, .int .u64 (cl1 : Int), .int .u64 (sq1 : Int), .int .i64 sh1, .int .i64 sg1, .int .u64 (ps1 : Int), .slice a1 n1 c1] 27)).alloc (.cells #[.int .i64 op2, .int .u64 (cl2 : Int), .int .u64 (sq2 : Int), .int .i64 sh2, .int .i64 sg2, .int .u64 (ps2 : Int), .slice a2 n2 c2] 27)) w.heap.size [.int .i64 op1, .int .u64 (cl1 : Int), .int .u64 (sq1 : Int), .int .i64 sh1, .int .i64 sg1, .int .u64 (ps1 : Int), .slice a1 n1 c1] 27 := (NB.rw_new w [.int .i64 op1, .int .u64 (cl1 : Int), .int .u64 (sq1 : Int), .int .i64 sh1, .int .i64 sg1, .int .u64 (ps1 : Int), .slice a1 n1 c1] 27 rfl).below ob2
  have q4 : Rw ((w.alloc (.cells #[.int .i64 op1, .int .u64 (cl1 : Int), .int .u64 (sq1 : Int), .int .i64 sh1, .int .i64 sg1, .int .u64 (ps1 : Int), .slice a1 n1 c1] 27)).alloc (.cells #[.int .i64 op2, .int .u64 (cl2 : Int), .int .u64 (sq2 : Int), .int .i64 sh2, .int .i64 sg2, .int .u64 (ps2 : Int), .slice a2 n2 c2] 27)) (w.heap.size + 1) [.int .i64 op2, .int .u64 (cl2 : Int), .int .u64 (sq2 : Int), .int .i64 sh2, .int .i64 sg2, .int .u64 (ps2 : Int), .slice a2 n2 c2] 27 := NB.rw_new (w.alloc (.cells #[.int .i64 op1, .int .u64 (cl1 : Int), .int .u64 (sq1 : Int), .int .i64 sh1, .int .i64 sg1, .int .u64 (ps1 : Int), .slice a1 n1 c1] 27)) [.int .i64 op2, .int .u64 (cl2 : Int), .int .u64 (sq2 : Int), .int .i64 sh2, .int .i64 sg2, .int .u64 (ps2 : Int), .slice a2 n2 c2] 27 (by simp)
  have hV1 : shortB L1 = true → n1 ≤ 100000 := fun hv => by
    unfold shortB at hv
    simp only [Bool.and_eq_true, decide_eq_true_eq] at hv
    have := hv.1
    rw [h1.len] at this
    omega
  have hV2 : shortB L2 = true → n2 ≤ 100000 := fun hv => by
    unfold shortB at hv
    simp only [Bool.and_eq_true, decide_eq_true_eq] at hv
    have := hv.1
    rw [h2.len] at this
    omega
  have cs1 := fun w hh => short_any w op1 sh1 sg1 cl1 sq1 ps1 n1 c1 a1 L1 hh
  have cs2 := fun w hh => short_any w op2 sh2 sg2 cl2 sq2 ps2 n2 c2 a2 L2 hh
  generalize shortB L1 = S1 at *
  generalize shortB L2 = S2 at *
  have cp1 := fun w hh => cput_any w op1 sh1 sg1 cl1 sq1 ps1 n1 c1 a1 L1 hh u1 u2 u3
  have cp2 := fun w hh => cput_any w op2 sh2 sg2 cl2 sq2 ps2 n2 c2 a2 L2 hh v1 v2 v3
  have WF1 := Go.Lib.hid (show WfC (cmOf op1 cl1 sq1 sh1 sg1 ps1 L1) from ⟨u1, u2, u3, fun r hr => by
    obtain ⟨x, hx, rfl⟩ := List.mem_map.1 hr
    exact (h1.it x hx).2⟩)
  have WF2 := Go.Lib.hid (show WfC (cmOf op2 cl2 sq2 sh2 sg2 ps2 L2) from ⟨v1, v2, v3, fun r hr => by
    obtain ⟨x, hx, rfl⟩ := List.mem_map.1 hr
    exact (h2.it x hx).2⟩)
  have CS1 := Go.Lib.hid cs1; have CS2 := Go.Lib.hid cs2; have CP1 := Go.Lib.hid cp1; have CP2 := Go.Lib.hid cp2; have HV1 := Go.Lib.hid hV1; have HV2 := Go.Lib.hid hV2
  clear cs1 cs2 cp1 cp2 hV1 hV2
  go_enter Try.func8, Try.ntmps8
  go_wp2_with fail
  refine (cawake_any _).mono ?_
  rintro e w1 ⟨rfl, hb1⟩
  have p3 := q3.below hb1
  have p4 := q4.below hb1
  have B1 := NB.bel B0 hb1 B0.size
  obtain ⟨c0, c1', c2', c3, c4, c5, c6, _⟩ := NB.rw7 p3
  clear q3 q4 B0 hb1 ob1 ob2
  go_wp2_with fail
  refine (CS1.out _ (h1.below B1)).mono ?_
  rintro e w2 ⟨rfl, hb2⟩
  have o3 := p3.below hb2
  have o4 := p4.below hb2
  have B2 := NB.bel B1 hb2 B1.size
  clear c0 c1' c2' c3 c4 c5 c6
  obtain ⟨c0, c1', c2', c3, c4, c5, c6, _⟩ := NB.rw7 o4
  clear p3 p4 B1 hb2
  go_wp2_with fail
  refine (CS2.out _ (h2.below B2)).mono ?_
  rintro e w3 ⟨rfl, hb3⟩
  have r3 := o3.below hb3
  have r4 := o4.below hb3
  have B4 := NB.bel B2 hb3 B2.size
  clear c0 c1' c2' c3 c4 c5 c6 o3 o4 B2 hb3 CS1 CS2
  cases S1 with
  | false =>
    go_wp2_with fail
    go_ret
    exact ⟨rfl, B4⟩
  | true =>
  cases S2 with
  | false =>
    go_wp2_with fail
    go_ret
    exact ⟨rfl, B4⟩
  | true =>
  have HN1 := Go.Lib.hid (HV1.out rfl)
  have HN2 := Go.Lib.hid (HV2.out rfl)
  clear HV1 HV2
  cases s with
  | false =>
    have EQ := Go.Lib.hid (putM_iff1 (A := (cmOf op1 cl1 sq1 sh1 sg1 ps1 L1)) (B := (cmOf op2 cl2 sq2 sh2 sg2 ps2 L2)) WF1.out WF2.out)
    obtain ⟨c0, c1', c2', c3, c4, c5, c6, _⟩ := NB.rw7 r3
    go_wp2_with fail
    refine (CP1.out _ (h1.below B4)).mono ?_
    rintro e w5 ⟨ax, kx, rfl, hox, hb5⟩
    have r35 := r3.below hb5
    have r45 := r4.below hb5
    have B5 := NB.bel B4 hb5 B4.size
    generalize hPx : putM (cmOf op1 cl1 sq1 sh1 sg1 ps1 L1) = Px at *
    obtain ⟨X, ex⟩ := Px
    unfold NB.OwnB at hox
    simp only at hox ⊢
    obtain ⟨ax', kx', ee, Rx, _, _⟩ := NB.rd_of_own hox
    cases ee
    have dx : NB.RdB w5 ax X.length kx X := Rx
    clear Rx hox r3 r4 hb5 B4 c0 c1' c2' c3 c4 c5 c6
    obtain ⟨c0, c1', c2', c3, c4, c5, c6, _⟩ := NB.rw7 r45
    go_wp2_with fail
    refine (CP2.out _ (h2.below B5)).mono ?_
    rintro e w6 ⟨ay, ky, rfl, hoy, hb6⟩
    have r36 := r35.below hb6
    have r46 := r45.below hb6
    have dx6 := dx.below hb6
    have B6 := NB.bel B5 hb6 B5.size
    clear c0 c1' c2' c3 c4 c5 c6
    generalize hPy : putM (cmOf op2 cl2 sq2 sh2 sg2 ps2 L2) = Py at *
    obtain ⟨Y, ey⟩ := Py
    unfold NB.OwnB at hoy
    simp only at hoy ⊢
    obtain ⟨ay', ky', ee, Ry, _, _⟩ := NB.rd_of_own hoy
    cases ee
    have dy6 : NB.RdB w6 ay Y.length ky Y := Ry
    clear Ry hoy r35 r45 hb6 B5 dx
    have HEX := EQ.out X ex Y ey
    by_cases hex : ex = 0
    case neg =>
      have heb : (ex != 0) = true := by simpa using hex
      go_wp2_with fail
      go_ret
      exact ⟨rfl, B6⟩
    by_cases hey : ey = 0
    case neg =>
      have heb : (ey != 0) = true := by simpa using hey
      subst hex
      go_wp2_with fail
      go_ret
      exact ⟨rfl, B6⟩
    have HXY := Go.Lib.hid (HEX rfl rfl hex hey)
    subst hex hey
    clear HEX
    have bx := Rd.bound dx6
    have bY := Rd.bound dy6
    have r39 := r36.below (dB _)
    have r49 := r46.below (dB _)
    have dx9 := dx6.below (dB _)
    have dy9 := dy6.below (dB _)
    have B9 := B6.drew
    clear r36 r46 dx6 dy6 B6
    go_wp2_with fail
    refine NB.wp_region_t [] (by kernel_rfl) ?_
    generalize w6.drew = w9 at *
    by_cases hxy : X = Y
    case pos =>
      have HAB := Go.Lib.hid (HXY.out.1 hxy)
      subst hxy
      refine NB.t_p 0 rfl (by kernel_rfl) (fun K hK => ?_); go_simp; refine hK _ ?_; clear hK K
      refine NB.t_r 1 [4, 10, 11] rfl (by kernel_rfl) (by kernel_rfl) (by go_simp) _ (fun w' hw' => NB.run_op_conv_str Try.underlying22 Try.underlying5 Try.underlying9 rfl rfl (Rd.below dx9 hw')) (fun K hK => ?_); go_simp; refine hK _ ?_; clear hK K
      refine NB.t_p 2 rfl (by kernel_rfl) (fun K hK => ?_); go_simp; refine hK _ ?_; clear hK K
      refine NB.t_r 3 [4, 10, 11] rfl (by kernel_rfl) (by kernel_rfl) (by go_simp) _ (fun w' hw' => NB.run_op_conv_str Try.underlying22 Try.underlying5 Try.underlying9 rfl rfl (Rd.below dy9 hw')) (fun K hK => ?_); go_simp; refine hK _ ?_; clear hK K
      refine NB.t_p 4 rfl (by kernel_rfl) (fun K hK => ?_); go_simp; refine hK _ ?_; clear hK K
      refine NB.t_r 5 [6, 8, 9, 10, 11] rfl (by kernel_rfl) (by kernel_rfl) (by go_simp) _ (fun w' hw' => NB.run_op_load_agg (off := 0) (m := 7) rfl rfl Try.underlying27 rfl _ _ _ r39 (by kernel_rfl) (Nat.le_refl _) _ rfl hw') (fun K hK => ?_); go_simp; refine hK _ ?_; clear hK K
      refine NB.t_r 7 [8, 9, 10, 11] rfl (by kernel_rfl) (by kernel_rfl) (by go_simp) _ (fun w' hw' => NB.run_op_load_agg (off := 0) (m := 7) rfl rfl Try.underlying27 rfl _ _ _ r49 (by kernel_rfl) (Nat.le_refl _) _ rfl hw') (fun K hK => ?_); go_simp; refine hK _ ?_; clear hK K
      refine NB.t_e 6 rfl (by kernel_rfl) (by kernel_rfl) (fun K hK => ?_); unfold NB.tmoves; go_simp; refine (cof_any w9 op1 sh1 sg1 cl1 sq1 ps1 n1 c1 a1 L1 (h1.below B9) HN1.out).mono ?_; rintro e w10 ⟨a10, k10, rfl, hW10, hb10⟩; refine ⟨_, rfl, hb10, hK _ _ ?_⟩; clear hK K
      refine NB.t_e 8 rfl (by kernel_rfl) (by kernel_rfl) (fun K hK => ?_); unfold NB.tmoves; go_simp; have B10 := NB.bel B9 hb10 B9.size; refine (cof_any w10 op2 sh2 sg2 cl2 sq2 ps2 n2 c2 a2 L2 (h2.below B10) HN2.out).mono ?_; rintro e w11 ⟨a11, k11, rfl, hW11, hb11⟩; refine ⟨_, rfl, hb11, hK _ _ ?_⟩; clear hK K
      refine NB.t_e 9 rfl (by kernel_rfl) (by kernel_rfl) (fun K hK => ?_); unfold NB.tmoves; go_simp; refine (same_any w11 op1 sh1 sg1 op2 sh2 sg2 cl1 sq1 ps1 n1 k10 cl2 sq2 ps2 n2 k11 a10 a11 L1 L2 (hW10.below hb11) hW11).mono ?_; rintro e w12 ⟨V, rfl, hV, hb12⟩; refine ⟨_, rfl, hb12, hK _ _ ?_⟩; clear hK K
      have hVt : V = true := hV.2 HAB.out
      subst hVt
      clear hV
      refine NB.t_p 10 rfl (by kernel_rfl) (fun K hK => ?_); go_simp; refine hK _ ?_; clear hK K
      refine NB.t_p 11 rfl (by kernel_rfl) (fun K hK => ?_); go_simp; refine hK _ ?_; clear hK K
      have B11 := NB.bel B10 hb11 B10.size
      have B12 := NB.bel B11 hb12 B11.size
      refine NB.t_end (by kernel_rfl) ?_
      go_wp2_with fail
      go_ret
      exact ⟨rfl, B12⟩
    have HAB := Go.Lib.hid (fun e => hxy (HXY.out.2 e))
    have hbq : (X == Y) = false := beq_eq_false_iff_ne.2 hxy
    refine NB.t_p 0 rfl (by kernel_rfl) (fun K hK => ?_); go_simp; refine hK _ ?_; clear hK K
    refine NB.t_r 1 [4, 10, 11] rfl (by kernel_rfl) (by kernel_rfl) (by go_simp) _ (fun w' hw' => NB.run_op_conv_str Try.underlying22 Try.underlying5 Try.underlying9 rfl rfl (Rd.below dx9 hw')) (fun K hK => ?_); go_simp; refine hK _ ?_; clear hK K
    refine NB.t_p 2 rfl (by kernel_rfl) (fun K hK => ?_); go_simp; refine hK _ ?_; clear hK K
    refine NB.t_r 3 [4, 10, 11] rfl (by kernel_rfl) (by kernel_rfl) (by go_simp) _ (fun w' hw' => NB.run_op_conv_str Try.underlying22 Try.underlying5 Try.underlying9 rfl rfl (Rd.below dy9 hw')) (fun K hK => ?_); go_simp; refine hK _ ?_; clear hK K
    refine NB.t_p 4 rfl (by kernel_rfl) (fun K hK => ?_); go_simp; refine hK _ ?_; clear hK K
    refine NB.t_r 5 [6, 8, 9, 10, 11] rfl (by kernel_rfl) (by kernel_rfl) (by go_simp) _ (fun w' hw' => NB.run_op_load_agg (off := 0) (m := 7) rfl rfl Try.underlying27 rfl _ _ _ r39 (by kernel_rfl) (Nat.le_refl _) _ rfl hw') (fun K hK => ?_); go_simp; refine hK _ ?_; clear hK K
    refine NB.t_r 7 [8, 9, 10, 11] rfl (by kernel_rfl) (by kernel_rfl) (by go_simp) _ (fun w' hw' => NB.run_op_load_agg (off := 0) (m := 7) rfl rfl Try.underlying27 rfl _ _ _ r49 (by kernel_rfl) (Nat.le_refl _) _ rfl hw') (fun K hK => ?_); go_simp; refine hK _ ?_; clear hK K
    refine NB.t_e 6 rfl (by kernel_rfl) (by kernel_rfl) (fun K hK => ?_); unfold NB.tmoves; go_simp; refine (cof_any w9 op1 sh1 sg1 cl1 sq1 ps1 n1 c1 a1 L1 (h1.below B9) HN1.out).mono ?_; rintro e w10 ⟨a10, k10, rfl, hW10, hb10⟩; refine ⟨_, rfl, hb10, hK _ _ ?_⟩; clear hK K
    refine NB.t_e 8 rfl (by kernel_rfl) (by kernel_rfl) (fun K hK => ?_); unfold NB.tmoves; go_simp; have B10 := NB.bel B9 hb10 B9.size; refine (cof_any w10 op2 sh2 sg2 cl2 sq2 ps2 n2 c2 a2 L2 (h2.below B10) HN2.out).mono ?_; rintro e w11 ⟨a11, k11, rfl, hW11, hb11⟩; refine ⟨_, rfl, hb11, hK _ _ ?_⟩; clear hK K
    refine NB.t_e 9 rfl (by kernel_rfl) (by kernel_rfl) (fun K hK => ?_); unfold NB.tmoves; go_simp; refine (same_any w11 op1 sh1 sg1 op2 sh2 sg2 cl1 sq1 ps1 n1 k10 cl2 sq2 ps2 n2 k11 a10 a11 L1 L2 (hW10.below hb11) hW11).mono ?_; rintro e w12 ⟨V, rfl, hV, hb12⟩; refine ⟨_, rfl, hb12, hK _ _ ?_⟩; clear hK K
    have hVt : V = false := by cases V with
      | false => rfl
      | true => exact absurd (hV.1 rfl) HAB.out
    subst hVt
    clear hV
    refine NB.t_p 10 rfl (by kernel_rfl) (fun K hK => ?_); go_simp; refine hK _ ?_; clear hK K
    refine NB.t_p 11 rfl (by kernel_rfl) (fun K hK => ?_); go_simp; refine hK _ ?_; clear hK K
    have B11 := NB.bel B10 hb11 B10.size
    have B12 := NB.bel B11 hb12 B11.size
    refine NB.t_end (by kernel_rfl) ?_
    go_wp2_with fail
    go_ret
    exact ⟨rfl, B12⟩
  | true =>
    obtain ⟨c0, c1', c2', c3, c4, c5, c6, _⟩ := NB.rw7 r3
    have r4o := Go.Lib.hid r4
    go_wp2_with (refine NB.wpList_store_agg_any rfl 27 (.tmp 4) (.tmp 28) rfl rfl (w.heap.size + 1) 0 #[.int .i64 op1, .int .u64 (cl1 : Int), .int .u64 (sq1 : Int), .int .i64 sh1, .int .i64 sg1, .int .u64 (ps1 : Int), .slice a1 n1 c1] rfl rfl 27 #[.int .i64 op2, .int .u64 (cl2 : Int), .int .u64 (sq2 : Int), .int .i64 sh2, .int .i64 sg2, .int .u64 (ps2 : Int), .slice a2 n2 c2] r4o.out (by kernel_rfl) (by simp) (by simp [Value.oneCell']) #[.int .i64 op1, .int .u64 (cl1 : Int), .int .u64 (sq1 : Int), .int .i64 sh1, .int .i64 sg1, .int .u64 (ps1 : Int), .slice a1 n1 c1] (NB.splice_all _ _ (by simp)) ?_; intro wS hgS hrS hsS; have r3S : Rw wS w.heap.size [.int .i64 op1, .int .u64 (cl1 : Int), .int .u64 (sq1 : Int), .int .i64 sh1, .int .i64 sg1, .int .u64 (ps1 : Int), .slice a1 n1 c1] 27 := (hgS.block _ r3.lt (by simp)).trans r3; have BS : Below w.heap.size w wS := ⟨hgS.os.trans B4.os, hgS.tape.trans B4.tape, hgS.output.trans B4.output, by have := B4.size; omega, fun k hk => (hgS.block k (by have := B4.size; omega) (by intro e; injection e with e; omega)).trans (B4.block k hk)⟩; clear c0 c1' c2' c3 c4 c5 c6; have r4S : Rw wS (w.heap.size + 1) [.int .i64 op1, .int .u64 (cl1 : Int), .int .u64 (sq1 : Int), .int .i64 sh1, .int .i64 sg1, .int .u64 (ps1 : Int), .slice a1 n1 c1] 27 := hrS; clear hgS hrS hsS r4o r3 r4 B4; have r3 := r3S; have r4 := r4S; have B4 := BS; clear r3S r4S BS; obtain ⟨c0, c1', c2', c3, c4, c5, c6, _⟩ := NB.rw7 r3)
    have EQ := Go.Lib.hid (putM_iff1 (A := (cmOf op1 cl1 sq1 sh1 sg1 ps1 L1)) (B := (cmOf op1 cl1 sq1 sh1 sg1 ps1 L1)) WF1.out WF1.out)
    refine (CP1.out _ (h1.below B4)).mono ?_
    rintro e w5 ⟨ax, kx, rfl, hox, hb5⟩
    have r35 := r3.below hb5
    have r45 := r4.below hb5
    have B5 := NB.bel B4 hb5 B4.size
    generalize hPx : putM (cmOf op1 cl1 sq1 sh1 sg1 ps1 L1) = Px at *
    obtain ⟨X, ex⟩ := Px
    unfold NB.OwnB at hox
    simp only at hox ⊢
    obtain ⟨ax', kx', ee, Rx, _, _⟩ := NB.rd_of_own hox
    cases ee
    have dx : NB.RdB w5 ax X.length kx X := Rx
    clear Rx hox r3 r4 hb5 B4 c0 c1' c2' c3 c4 c5 c6
    obtain ⟨c0, c1', c2', c3, c4, c5, c6, _⟩ := NB.rw7 r45
    go_wp2_with fail
    refine (CP1.out _ (h1.below B5)).mono ?_
    rintro e w6 ⟨ay, ky, rfl, hoy, hb6⟩
    have r36 := r35.below hb6
    have r46 := r45.below hb6
    have dx6 := dx.below hb6
    have B6 := NB.bel B5 hb6 B5.size
    clear c0 c1' c2' c3 c4 c5 c6
    unfold NB.OwnB at hoy
    simp only at hoy ⊢
    obtain ⟨ay', ky', ee, Ry, _, _⟩ := NB.rd_of_own hoy
    cases ee
    have dy6 : NB.RdB w6 ay X.length ky X := Ry
    clear Ry hoy r35 r45 hb6 B5 dx
    have HEX := EQ.out X ex X ex
    by_cases hex : ex = 0
    case neg =>
      have heb : (ex != 0) = true := by simpa using hex
      go_wp2_with fail
      go_ret
      exact ⟨rfl, B6⟩
    subst hex
    clear HEX
    have bx := Rd.bound dx6
    have bY := Rd.bound dy6
    have r39 := r36.below (dB _)
    have r49 := r46.below (dB _)
    have dx9 := dx6.below (dB _)
    have dy9 := dy6.below (dB _)
    have B9 := B6.drew
    clear r36 r46 dx6 dy6 B6
    go_wp2_with fail
    refine NB.wp_region_t [] (by kernel_rfl) ?_
    generalize w6.drew = w9 at *
    have HAB := Go.Lib.hid (rfl : (cmOf op1 cl1 sq1 sh1 sg1 ps1 L1) = (cmOf op1 cl1 sq1 sh1 sg1 ps1 L1))
    refine NB.t_p 0 rfl (by kernel_rfl) (fun K hK => ?_); go_simp; refine hK _ ?_; clear hK K
    refine NB.t_r 1 [4, 10, 11] rfl (by kernel_rfl) (by kernel_rfl) (by go_simp) _ (fun w' hw' => NB.run_op_conv_str Try.underlying22 Try.underlying5 Try.underlying9 rfl rfl (Rd.below dx9 hw')) (fun K hK => ?_); go_simp; refine hK _ ?_; clear hK K
    refine NB.t_p 2 rfl (by kernel_rfl) (fun K hK => ?_); go_simp; refine hK _ ?_; clear hK K
    refine NB.t_r 3 [4, 10, 11] rfl (by kernel_rfl) (by kernel_rfl) (by go_simp) _ (fun w' hw' => NB.run_op_conv_str Try.underlying22 Try.underlying5 Try.underlying9 rfl rfl (Rd.below dy9 hw')) (fun K hK => ?_); go_simp; refine hK _ ?_; clear hK K
    refine NB.t_p 4 rfl (by kernel_rfl) (fun K hK => ?_); go_simp; refine hK _ ?_; clear hK K
    refine NB.t_r 5 [6, 8, 9, 10, 11] rfl (by kernel_rfl) (by kernel_rfl) (by go_simp) _ (fun w' hw' => NB.run_op_load_agg (off := 0) (m := 7) rfl rfl Try.underlying27 rfl _ _ _ r39 (by kernel_rfl) (Nat.le_refl _) _ rfl hw') (fun K hK => ?_); go_simp; refine hK _ ?_; clear hK K
    refine NB.t_r 7 [8, 9, 10, 11] rfl (by kernel_rfl) (by kernel_rfl) (by go_simp) _ (fun w' hw' => NB.run_op_load_agg (off := 0) (m := 7) rfl rfl Try.underlying27 rfl _ _ _ r49 (by kernel_rfl) (Nat.le_refl _) _ rfl hw') (fun K hK => ?_); go_simp; refine hK _ ?_; clear hK K
    refine NB.t_e 6 rfl (by kernel_rfl) (by kernel_rfl) (fun K hK => ?_); unfold NB.tmoves; go_simp; refine (cof_any w9 op1 sh1 sg1 cl1 sq1 ps1 n1 c1 a1 L1 (h1.below B9) HN1.out).mono ?_; rintro e w10 ⟨a10, k10, rfl, hW10, hb10⟩; refine ⟨_, rfl, hb10, hK _ _ ?_⟩; clear hK K
    refine NB.t_e 8 rfl (by kernel_rfl) (by kernel_rfl) (fun K hK => ?_); unfold NB.tmoves; go_simp; have B10 := NB.bel B9 hb10 B9.size; refine (cof_any w10 op1 sh1 sg1 cl1 sq1 ps1 n1 c1 a1 L1 (h1.below B10) HN1.out).mono ?_; rintro e w11 ⟨a11, k11, rfl, hW11, hb11⟩; refine ⟨_, rfl, hb11, hK _ _ ?_⟩; clear hK K
    refine NB.t_e 9 rfl (by kernel_rfl) (by kernel_rfl) (fun K hK => ?_); unfold NB.tmoves; go_simp; refine (same_any w11 op1 sh1 sg1 op1 sh1 sg1 cl1 sq1 ps1 n1 k10 cl1 sq1 ps1 n1 k11 a10 a11 L1 L1 (hW10.below hb11) hW11).mono ?_; rintro e w12 ⟨V, rfl, hV, hb12⟩; refine ⟨_, rfl, hb12, hK _ _ ?_⟩; clear hK K
    have hVt : V = true := hV.2 HAB.out
    subst hVt
    clear hV
    refine NB.t_p 10 rfl (by kernel_rfl) (fun K hK => ?_); go_simp; refine hK _ ?_; clear hK K
    refine NB.t_p 11 rfl (by kernel_rfl) (fun K hK => ?_); go_simp; refine hK _ ?_; clear hK K
    have B11 := NB.bel B10 hb11 B10.size
    have B12 := NB.bel B11 hb12 B11.size
    refine NB.t_end (by kernel_rfl) ?_
    go_wp2_with fail
    go_ret
    exact ⟨rfl, B12⟩
end Go.Proofs.Ytnkmlopgfgdajaa
