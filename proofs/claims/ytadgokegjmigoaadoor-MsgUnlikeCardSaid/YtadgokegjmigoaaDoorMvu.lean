/- The law MsgUnlike. -/
import Derived.Test.YtadgokegjmigoaaDoorMgs
import Derived.Test.YtadgokegjmigoaaDoorMgv
namespace Go.Proofs.YtadgokegjmigoaaDoor
open Go.RowKit Go.Shelf
open Go.NB (Rd Kp Stp Off Dis oneB dB Rw RdU Lp Rr encU encB digs)

theorem mput_iff {A B : Mm} (wa : WfM A) (wb : WfM B) {X Y : List UInt8} {ex ey : Int} (hx : mputM A = (X, ex)) (hy : mputM B = (Y, ey)) (ex0 : ex = 0) (ey0 : ey = 0) : X = Y ↔ A = B := by
  subst ex0 ey0
  have ka : mcheckB A = true := by
    cases hk : mcheckB A with
    | true => rfl
    | false => rw [mput_no (by rw [hk]; simp)] at hx; exact absurd (Prod.mk.inj hx).2 (by decide)
  have kb : mcheckB B = true := by
    cases hk : mcheckB B with
    | true => rfl
    | false => rw [mput_no (by rw [hk]; simp)] at hy; exact absurd (Prod.mk.inj hy).2 (by decide)
  rw [mput_ok ka wa] at hx
  rw [mput_ok kb wb] at hy
  obtain rfl := (Prod.mk.inj hx).1
  obtain rfl := (Prod.mk.inj hy).1
  exact ⟨mput_inj ka wa kb wb, fun e => by rw [e]⟩

set_option maxRecDepth 100000 in
set_option maxHeartbeats 8000000 in
theorem law_munlike (w : World) (hT : Tb w) (m1 : Mm) (av1 : Option Addr) (cv1 : Nat) (ab1 : Option Addr) (cb1 : Nat) (m2 : Mm) (av2 : Option Addr) (cv2 : Nat) (ab2 : Option Addr) (cb2 : Nat) (s : Bool) (wf1 : WfM m1) (mr1 : MsgR w m1 av1 cv1 ab1 cb1) (wf2 : WfM m2) (mr2 : MsgR w m2 av2 cv2 ab2 cb2) :
    Calls Tryd.prog 8 #[.agg (msgV m1 av1 cv1 ab1 cb1).toArray, .agg (msgV m2 av2 cv2 ab2 cb2).toArray, .bool s] w fun e w' => e = .returned (.bool true) ∧ Below w.heap.size w w' := by
  have HT := Go.Lib.hid hT
  have cp1 := fun w hT hR => mput_any w hT m1 av1 cv1 ab1 cb1 hR wf1
  have cp2 := fun w hT hR => mput_any w hT m2 av2 cv2 ab2 cb2 hR wf2
  have WF1 := Go.Lib.hid wf1; have WF2 := Go.Lib.hid wf2; have MR1 := Go.Lib.hid mr1; have MR2 := Go.Lib.hid mr2
  have bv1 := Rd.bound mr1.vec.1; have bb1 := Rd.bound mr1.body; have bv2 := Rd.bound mr2.vec.1; have bb2 := Rd.bound mr2.body
  have CP1 := Go.Lib.hid cp1; have CP2 := Go.Lib.hid cp2
  clear hT cp1 cp2 wf1 wf2 mr1 mr2
  obtain ⟨kd1, bl1, sl1, sh1, sg1, cl1, sq1, ps1, cd1, xs1, bs1⟩ := m1
  obtain ⟨kd2, bl2, sl2, sh2, sg2, cl2, sq2, ps2, cd2, xs2, bs2⟩ := m2
  unfold msgV at CP1 CP2 ⊢
  simp only [List.toArray] at CP1 CP2 bv1 bb1 bv2 bb2 ⊢
  have ob1 := oneB w (.cells #[.int .i64 kd1, .int .u64 (bl1 : Int), .int .u64 (sl1 : Int), .int .i64 sh1, .int .i64 sg1, .int .u64 (cl1 : Int), .int .u64 (sq1 : Int), .int .u64 (ps1 : Int), .int .i64 cd1, .slice av1 xs1.length cv1, .slice ab1 bs1.length cb1] 32)
  have ob2 := oneB (w.alloc (.cells #[.int .i64 kd1, .int .u64 (bl1 : Int), .int .u64 (sl1 : Int), .int .i64 sh1, .int .i64 sg1, .int .u64 (cl1 : Int), .int .u64 (sq1 : Int), .int .u64 (ps1 : Int), .int .i64 cd1, .slice av1 xs1.length cv1, .slice ab1 bs1.length cb1] 32)) (.cells #[.int .i64 kd2, .int .u64 (bl2 : Int), .int .u64 (sl2 : Int), .int .i64 sh2, .int .i64 sg2, .int .u64 (cl2 : Int), .int .u64 (sq2 : Int), .int .u64 (ps2 : Int), .int .i64 cd2, .slice av2 xs2.length cv2, .slice ab2 bs2.length cb2] 32)
  have B0 := NB.bel ob1 ob2 ob1.size
  have q3 : Rw ((w.alloc (.cells #[.int .i64 kd1, .int .u64 (bl1 : Int), .int .u64 (sl1 : Int), .int .i64 sh1, .int .i64 sg1, .int .u64 (cl1 : Int), .int .u64 (sq1 : Int), .int .u64 (ps1 : Int), .int .i64 cd1, .slice av1 xs1.length cv1, .slice ab1 bs1.length cb1] 32)).alloc (.cells #[.int .i64 kd2, .int .u64 (bl2 : Int), .int .u64 (sl2 : Int), .int .i64 sh2, .int .i64 sg2, .int .u64 (cl2 : Int), .int .u64 (sq2 : Int), .int .u64 (ps2 : Int), .int .i64 cd2, .slice av2 xs2.length cv2, .slice ab2 bs2.length cb2] 32)) w.heap.size [.int .i64 kd1, .int .u64 (bl1 : Int), .int .u64 (sl1 : Int), .int .i64 sh1, .int .i64 sg1, .int .u64 (cl1 : Int), .int .u64 (sq1 : Int), .int .u64 (ps1 : Int), .int .i64 cd1, .slice av1 xs1.length cv1, .slice ab1 bs1.length cb1] 32 := (NB.rw_new w [.int .i64 kd1, .int .u64 (bl1 : Int), .int .u64 (sl1 : Int), .int .i64 sh1, .int .i64 sg1, .int .u64 (cl1 : Int), .int .u64 (sq1 : Int), .int .u64 (ps1 : Int), .int .i64 cd1, .slice av1 xs1.length cv1, .slice ab1 bs1.length cb1] 32 rfl).below ob2
  have q4 : Rw ((w.alloc (.cells #[.int .i64 kd1, .int .u64 (bl1 : Int), .int .u64 (sl1 : Int), .int .i64 sh1, .int .i64 sg1, .int .u64 (cl1 : Int), .int .u64 (sq1 : Int), .int .u64 (ps1 : Int), .int .i64 cd1, .slice av1 xs1.length cv1, .slice ab1 bs1.length cb1] 32)).alloc (.cells #[.int .i64 kd2, .int .u64 (bl2 : Int), .int .u64 (sl2 : Int), .int .i64 sh2, .int .i64 sg2, .int .u64 (cl2 : Int), .int .u64 (sq2 : Int), .int .u64 (ps2 : Int), .int .i64 cd2, .slice av2 xs2.length cv2, .slice ab2 bs2.length cb2] 32)) (w.heap.size + 1) [.int .i64 kd2, .int .u64 (bl2 : Int), .int .u64 (sl2 : Int), .int .i64 sh2, .int .i64 sg2, .int .u64 (cl2 : Int), .int .u64 (sq2 : Int), .int .u64 (ps2 : Int), .int .i64 cd2, .slice av2 xs2.length cv2, .slice ab2 bs2.length cb2] 32 := NB.rw_new (w.alloc (.cells #[.int .i64 kd1, .int .u64 (bl1 : Int), .int .u64 (sl1 : Int), .int .i64 sh1, .int .i64 sg1, .int .u64 (cl1 : Int), .int .u64 (sq1 : Int), .int .u64 (ps1 : Int), .int .i64 cd1, .slice av1 xs1.length cv1, .slice ab1 bs1.length cb1] 32)) [.int .i64 kd2, .int .u64 (bl2 : Int), .int .u64 (sl2 : Int), .int .i64 sh2, .int .i64 sg2, .int .u64 (cl2 : Int), .int .u64 (sq2 : Int), .int .u64 (ps2 : Int), .int .i64 cd2, .slice av2 xs2.length cv2, .slice ab2 bs2.length cb2] 32 (by simp)
  go_enter Tryd.func8, Tryd.ntmps8
  go_wp2_with fail
  refine (mawake_any _ (HT.out.grow B0)).mono ?_
  rintro e w1 ⟨rfl, hb1⟩
  have r3 := q3.below hb1
  have r4 := q4.below hb1
  have B4 := NB.bel B0 hb1 B0.size
  clear q3 q4 B0 hb1 ob1 ob2
  have d9 := r3.cell 9 _ rfl
  have d10 := r3.cell 10 _ rfl
  have e9 := r4.cell 9 _ rfl
  have e10 := r4.cell 10 _ rfl
  by_cases hl0 : xs1.length ≤ 50
  case neg =>
    have hz : ¬ (xs1.length : Int) ≤ 50 := by omega
    go_wp2_with fail
    go_ret
    exact ⟨rfl, B4⟩
  have hz0 : (xs1.length : Int) ≤ 50 := by omega
  by_cases hl1 : bs1.length ≤ 200
  case neg =>
    have hz : ¬ (bs1.length : Int) ≤ 200 := by omega
    go_wp2_with fail
    go_ret
    exact ⟨rfl, B4⟩
  have hz1 : (bs1.length : Int) ≤ 200 := by omega
  by_cases hl2 : xs2.length ≤ 50
  case neg =>
    have hz : ¬ (xs2.length : Int) ≤ 50 := by omega
    go_wp2_with fail
    go_ret
    exact ⟨rfl, B4⟩
  have hz2 : (xs2.length : Int) ≤ 50 := by omega
  by_cases hl3 : bs2.length ≤ 200
  case neg =>
    have hz : ¬ (bs2.length : Int) ≤ 200 := by omega
    go_wp2_with fail
    go_ret
    exact ⟨rfl, B4⟩
  have hz3 : (bs2.length : Int) ≤ 200 := by omega
  cases s with
  | false =>
    clear d9 d10
    have CPA := Go.Lib.hid (CP1.out _ (HT.out.grow B4) (MR1.out.below B4))
    have d0 := r3.cell 0 _ rfl
    have d1 := r3.cell 1 _ rfl
    have d2 := r3.cell 2 _ rfl
    have d3 := r3.cell 3 _ rfl
    have d4 := r3.cell 4 _ rfl
    have d5 := r3.cell 5 _ rfl
    have d6 := r3.cell 6 _ rfl
    have d7 := r3.cell 7 _ rfl
    have d8 := r3.cell 8 _ rfl
    have d9 := r3.cell 9 _ rfl
    have d10 := r3.cell 10 _ rfl
    go_wp2_with fail
    refine CPA.out.mono ?_
    rintro e w5 ⟨ax, kx, rfl, hox, hb5⟩
    have r35 := r3.below hb5
    have r45 := r4.below hb5
    have B5 := NB.bel B4 hb5 B4.size
    have CPB := Go.Lib.hid (CP2.out _ (HT.out.grow B5) (MR2.out.below B5))
    clear CPA
    generalize hPx : mputM (⟨kd1, bl1, sl1, sh1, sg1, cl1, sq1, ps1, cd1, xs1, bs1⟩ : Mm) = Px at *
    obtain ⟨X, ex⟩ := Px
    unfold NB.OwnB at hox
    simp only at hox ⊢
    obtain ⟨ax', kx', ee, Rx, _, _⟩ := NB.rd_of_own hox
    cases ee
    have dx : NB.RdB w5 ax X.length kx X := Rx
    clear Rx hox r3 r4 hb5 B4
    clear d0 d1 d2 d3 d4 d5 d6 d7 d8 d9 d10 e9 e10
    have d0 := r45.cell 0 _ rfl
    have d1 := r45.cell 1 _ rfl
    have d2 := r45.cell 2 _ rfl
    have d3 := r45.cell 3 _ rfl
    have d4 := r45.cell 4 _ rfl
    have d5 := r45.cell 5 _ rfl
    have d6 := r45.cell 6 _ rfl
    have d7 := r45.cell 7 _ rfl
    have d8 := r45.cell 8 _ rfl
    have d9 := r45.cell 9 _ rfl
    have d10 := r45.cell 10 _ rfl
    go_wp2_with fail
    refine CPB.out.mono ?_
    rintro e w6 ⟨ay, ky, rfl, hoy, hb6⟩
    have r36 := r35.below hb6
    have r46 := r45.below hb6
    have dx6 := dx.below hb6
    have B6 := NB.bel B5 hb6 B5.size
    clear CPB
    clear d0 d1 d2 d3 d4 d5 d6 d7 d8 d9 d10
    generalize hPy : mputM (⟨kd2, bl2, sl2, sh2, sg2, cl2, sq2, ps2, cd2, xs2, bs2⟩ : Mm) = Py at *
    obtain ⟨Y, ey⟩ := Py
    have HXY := Go.Lib.hid (mput_iff WF1.out WF2.out hPx hPy)
    clear hPx hPy
    unfold NB.OwnB at hoy
    simp only at hoy ⊢
    obtain ⟨ay', ky', ee, Ry, _, _⟩ := NB.rd_of_own hoy
    cases ee
    have dy6 : NB.RdB w6 ay Y.length ky Y := Ry
    clear Ry hoy r35 r45 hb6 B5 dx
    by_cases hex : ex = 0
    case neg =>
      have heb : (ex != 0) = true := by simpa using hex
      clear HXY
      go_wp2_with fail
      go_ret
      exact ⟨rfl, B6⟩
    subst hex
    by_cases hey : ey = 0
    case neg =>
      have heb : (ey != 0) = true := by simpa using hey
      clear HXY
      go_wp2_with fail
      go_ret
      exact ⟨rfl, B6⟩
    subst hey
    have HQ := Go.Lib.hid (HXY.out rfl rfl)
    clear HXY
    have bx := Rd.bound dx6
    have bY := Rd.bound dy6
    have r39 := r36.below (dB _)
    have r49 := r46.below (dB _)
    have dx9 := dx6.below (dB _)
    have dy9 := dy6.below (dB _)
    have B9 := B6.drew
    clear r36 r46 dx6 dy6 B6
    go_wp2_with fail
    refine NB.wp_region_t [] (by kernel_rfl) ?_
    generalize w6.drew = w9 at *
    by_cases hxy : X = Y
    case pos =>
      have HAB := Go.Lib.hid (HQ.out.1 hxy)
      subst hxy
      clear HQ
      refine NB.t_p 0 rfl (by kernel_rfl) (fun K hK => ?_); go_simp; refine hK _ ?_; clear hK K
      refine NB.t_r 1 [4, 10, 11] rfl (by kernel_rfl) (by kernel_rfl) (by go_simp) _ (fun w' hw' => NB.run_op_conv_str Tryd.underlying22 Tryd.underlying5 Tryd.underlying9 rfl rfl (Rd.below dx9 hw')) (fun K hK => ?_); go_simp; refine hK _ ?_; clear hK K
      refine NB.t_p 2 rfl (by kernel_rfl) (fun K hK => ?_); go_simp; refine hK _ ?_; clear hK K
      refine NB.t_r 3 [4, 10, 11] rfl (by kernel_rfl) (by kernel_rfl) (by go_simp) _ (fun w' hw' => NB.run_op_conv_str Tryd.underlying22 Tryd.underlying5 Tryd.underlying9 rfl rfl (Rd.below dy9 hw')) (fun K hK => ?_); go_simp; refine hK _ ?_; clear hK K
      refine NB.t_p 4 rfl (by kernel_rfl) (fun K hK => ?_); go_simp; refine hK _ ?_; clear hK K
      refine NB.t_r 5 [6, 8, 9, 10, 11] rfl (by kernel_rfl) (by kernel_rfl) (by go_simp) _ (fun w' hw' => NB.run_op_load_agg (off := 0) (m := 11) rfl rfl Tryd.underlying32 rfl _ _ _ r39 (by kernel_rfl) (Nat.le_refl _) _ rfl hw') (fun K hK => ?_); go_simp; refine hK _ ?_; clear hK K
      refine NB.t_r 7 [8, 9, 10, 11] rfl (by kernel_rfl) (by kernel_rfl) (by go_simp) _ (fun w' hw' => NB.run_op_load_agg (off := 0) (m := 11) rfl rfl Tryd.underlying32 rfl _ _ _ r49 (by kernel_rfl) (Nat.le_refl _) _ rfl hw') (fun K hK => ?_); go_simp; refine hK _ ?_; clear hK K
      refine NB.t_e 6 rfl (by kernel_rfl) (by kernel_rfl) (fun K hK => ?_); unfold NB.tmoves; go_simp; refine (msgof_any w9 _ _ _ _ _ _ _ _ _ _ _ _ _ _ _ _ (MR1.out.below B9).body).mono ?_; rintro e w10 ⟨rfl, hb10⟩; refine ⟨_, rfl, hb10, hK _ _ ?_⟩; clear hK K
      refine NB.t_e 8 rfl (by kernel_rfl) (by kernel_rfl) (fun K hK => ?_); unfold NB.tmoves; go_simp; have B10 := NB.bel B9 hb10 B9.size; refine (msgof_any w10 _ _ _ _ _ _ _ _ _ _ _ _ _ _ _ _ (MR2.out.below B10).body).mono ?_; rintro e w11 ⟨rfl, hb11⟩; refine ⟨_, rfl, hb11, hK _ _ ?_⟩; clear hK K
      refine NB.t_e 9 rfl (by kernel_rfl) (by kernel_rfl) (fun K hK => ?_); unfold NB.tmoves; go_simp; have B11 := NB.bel B10 hb11 B10.size; refine (same_any w11 _ _ _ _ _ _ _ _ _ _ _ _ _ _ _ _ _ _ _ _ _ _ _ _ _ _ _ _ (MR1.out.below B11).vec (MR2.out.below B11).vec).mono ?_; rintro e w12 ⟨V, rfl, hV, hb12⟩; refine ⟨_, rfl, hb12, hK _ _ ?_⟩; clear hK K
      have hVt : V = true := hV.2 HAB.out
      subst hVt
      clear hV
      refine NB.t_p 10 rfl (by kernel_rfl) (fun K hK => ?_); go_simp; refine hK _ ?_; clear hK K
      refine NB.t_p 11 rfl (by kernel_rfl) (fun K hK => ?_); go_simp; refine hK _ ?_; clear hK K
      have B12 := NB.bel B11 hb12 B11.size
      refine NB.t_end (by kernel_rfl) ?_
      go_wp2_with fail
      go_ret
      exact ⟨rfl, B12⟩
    have HAB := Go.Lib.hid (fun e => hxy (HQ.out.2 e))
    have hbq := str_beq hxy
    have hbq2 : (X == Y) = false := beq_eq_false_iff_ne.2 hxy
    clear HQ
    refine NB.t_p 0 rfl (by kernel_rfl) (fun K hK => ?_); go_simp; refine hK _ ?_; clear hK K
    refine NB.t_r 1 [4, 10, 11] rfl (by kernel_rfl) (by kernel_rfl) (by go_simp) _ (fun w' hw' => NB.run_op_conv_str Tryd.underlying22 Tryd.underlying5 Tryd.underlying9 rfl rfl (Rd.below dx9 hw')) (fun K hK => ?_); go_simp; refine hK _ ?_; clear hK K
    refine NB.t_p 2 rfl (by kernel_rfl) (fun K hK => ?_); go_simp; refine hK _ ?_; clear hK K
    refine NB.t_r 3 [4, 10, 11] rfl (by kernel_rfl) (by kernel_rfl) (by go_simp) _ (fun w' hw' => NB.run_op_conv_str Tryd.underlying22 Tryd.underlying5 Tryd.underlying9 rfl rfl (Rd.below dy9 hw')) (fun K hK => ?_); go_simp; refine hK _ ?_; clear hK K
    refine NB.t_p 4 rfl (by kernel_rfl) (fun K hK => ?_); go_simp; refine hK _ ?_; clear hK K
    refine NB.t_r 5 [6, 8, 9, 10, 11] rfl (by kernel_rfl) (by kernel_rfl) (by go_simp) _ (fun w' hw' => NB.run_op_load_agg (off := 0) (m := 11) rfl rfl Tryd.underlying32 rfl _ _ _ r39 (by kernel_rfl) (Nat.le_refl _) _ rfl hw') (fun K hK => ?_); go_simp; refine hK _ ?_; clear hK K
    refine NB.t_r 7 [8, 9, 10, 11] rfl (by kernel_rfl) (by kernel_rfl) (by go_simp) _ (fun w' hw' => NB.run_op_load_agg (off := 0) (m := 11) rfl rfl Tryd.underlying32 rfl _ _ _ r49 (by kernel_rfl) (Nat.le_refl _) _ rfl hw') (fun K hK => ?_); go_simp; refine hK _ ?_; clear hK K
    refine NB.t_e 6 rfl (by kernel_rfl) (by kernel_rfl) (fun K hK => ?_); unfold NB.tmoves; go_simp; refine (msgof_any w9 _ _ _ _ _ _ _ _ _ _ _ _ _ _ _ _ (MR1.out.below B9).body).mono ?_; rintro e w10 ⟨rfl, hb10⟩; refine ⟨_, rfl, hb10, hK _ _ ?_⟩; clear hK K
    refine NB.t_e 8 rfl (by kernel_rfl) (by kernel_rfl) (fun K hK => ?_); unfold NB.tmoves; go_simp; have B10 := NB.bel B9 hb10 B9.size; refine (msgof_any w10 _ _ _ _ _ _ _ _ _ _ _ _ _ _ _ _ (MR2.out.below B10).body).mono ?_; rintro e w11 ⟨rfl, hb11⟩; refine ⟨_, rfl, hb11, hK _ _ ?_⟩; clear hK K
    refine NB.t_e 9 rfl (by kernel_rfl) (by kernel_rfl) (fun K hK => ?_); unfold NB.tmoves; go_simp; have B11 := NB.bel B10 hb11 B10.size; refine (same_any w11 _ _ _ _ _ _ _ _ _ _ _ _ _ _ _ _ _ _ _ _ _ _ _ _ _ _ _ _ (MR1.out.below B11).vec (MR2.out.below B11).vec).mono ?_; rintro e w12 ⟨V, rfl, hV, hb12⟩; refine ⟨_, rfl, hb12, hK _ _ ?_⟩; clear hK K
    have hVt : V = false := by cases V with
      | false => rfl
      | true => exact absurd (hV.1 rfl) HAB.out
    subst hVt
    clear hV
    refine NB.t_p 10 rfl (by kernel_rfl) (fun K hK => ?_); go_simp; refine hK _ ?_; clear hK K
    refine NB.t_p 11 rfl (by kernel_rfl) (fun K hK => ?_); go_simp; refine hK _ ?_; clear hK K
    have B12 := NB.bel B11 hb12 B11.size
    refine NB.t_end (by kernel_rfl) ?_
    go_wp2_with fail
    go_ret
    exact ⟨rfl, B12⟩
  | true =>
    have d0 := r3.cell 0 _ rfl
    have d1 := r3.cell 1 _ rfl
    have d2 := r3.cell 2 _ rfl
    have d3 := r3.cell 3 _ rfl
    have d4 := r3.cell 4 _ rfl
    have d5 := r3.cell 5 _ rfl
    have d6 := r3.cell 6 _ rfl
    have d7 := r3.cell 7 _ rfl
    have d8 := r3.cell 8 _ rfl
    have d9 := r3.cell 9 _ rfl
    have d10 := r3.cell 10 _ rfl
    have r4o := Go.Lib.hid r4
    go_wp2_with (refine NB.wpList_store_agg_any rfl 32 (.tmp 4) (.tmp 38) rfl rfl (w.heap.size + 1) 0 #[.int .i64 kd1, .int .u64 (bl1 : Int), .int .u64 (sl1 : Int), .int .i64 sh1, .int .i64 sg1, .int .u64 (cl1 : Int), .int .u64 (sq1 : Int), .int .u64 (ps1 : Int), .int .i64 cd1, .slice av1 xs1.length cv1, .slice ab1 bs1.length cb1] rfl rfl 32 #[.int .i64 kd2, .int .u64 (bl2 : Int), .int .u64 (sl2 : Int), .int .i64 sh2, .int .i64 sg2, .int .u64 (cl2 : Int), .int .u64 (sq2 : Int), .int .u64 (ps2 : Int), .int .i64 cd2, .slice av2 xs2.length cv2, .slice ab2 bs2.length cb2] r4o.out (by kernel_rfl) (by simp) (by simp [Value.oneCell']) #[.int .i64 kd1, .int .u64 (bl1 : Int), .int .u64 (sl1 : Int), .int .i64 sh1, .int .i64 sg1, .int .u64 (cl1 : Int), .int .u64 (sq1 : Int), .int .u64 (ps1 : Int), .int .i64 cd1, .slice av1 xs1.length cv1, .slice ab1 bs1.length cb1] (NB.splice_all _ _ (by simp)) ?_; intro wS hgS hrS hsS; have r3S : Rw wS w.heap.size [.int .i64 kd1, .int .u64 (bl1 : Int), .int .u64 (sl1 : Int), .int .i64 sh1, .int .i64 sg1, .int .u64 (cl1 : Int), .int .u64 (sq1 : Int), .int .u64 (ps1 : Int), .int .i64 cd1, .slice av1 xs1.length cv1, .slice ab1 bs1.length cb1] 32 := (hgS.block _ r3.lt (by simp)).trans r3; have BS : Below w.heap.size w wS := ⟨hgS.os.trans B4.os, hgS.tape.trans B4.tape, hgS.output.trans B4.output, by have := B4.size; omega, fun k hk => (hgS.block k (by have := B4.size; omega) (by intro e; injection e with e; omega)).trans (B4.block k hk)⟩; clear d0 d1 d2 d3 d4 d5 d6 d7 d8 d9 d10; have r4S : Rw wS (w.heap.size + 1) [.int .i64 kd1, .int .u64 (bl1 : Int), .int .u64 (sl1 : Int), .int .i64 sh1, .int .i64 sg1, .int .u64 (cl1 : Int), .int .u64 (sq1 : Int), .int .u64 (ps1 : Int), .int .i64 cd1, .slice av1 xs1.length cv1, .slice ab1 bs1.length cb1] 32 := hrS; clear hgS hrS hsS r4o r3 r4 B4 e9 e10; have r3 := r3S; have r4 := r4S; have B4 := BS; clear r3S r4S BS; have d0 := r3.cell 0 _ rfl; have d1 := r3.cell 1 _ rfl; have d2 := r3.cell 2 _ rfl; have d3 := r3.cell 3 _ rfl; have d4 := r3.cell 4 _ rfl; have d5 := r3.cell 5 _ rfl; have d6 := r3.cell 6 _ rfl; have d7 := r3.cell 7 _ rfl; have d8 := r3.cell 8 _ rfl; have d9 := r3.cell 9 _ rfl; have d10 := r3.cell 10 _ rfl)
    have CPA := Go.Lib.hid (CP1.out _ (HT.out.grow B4) (MR1.out.below B4))
    refine CPA.out.mono ?_
    rintro e w5 ⟨ax, kx, rfl, hox, hb5⟩
    have r35 := r3.below hb5
    have r45 := r4.below hb5
    have B5 := NB.bel B4 hb5 B4.size
    have CPB := Go.Lib.hid (CP1.out _ (HT.out.grow B5) (MR1.out.below B5))
    clear CPA
    generalize hPx : mputM (⟨kd1, bl1, sl1, sh1, sg1, cl1, sq1, ps1, cd1, xs1, bs1⟩ : Mm) = Px at *
    obtain ⟨X, ex⟩ := Px
    unfold NB.OwnB at hox
    simp only at hox ⊢
    obtain ⟨ax', kx', ee, Rx, _, _⟩ := NB.rd_of_own hox
    cases ee
    have dx : NB.RdB w5 ax X.length kx X := Rx
    clear Rx hox r3 r4 hb5 B4
    clear d0 d1 d2 d3 d4 d5 d6 d7 d8 d9 d10
    have d0 := r45.cell 0 _ rfl
    have d1 := r45.cell 1 _ rfl
    have d2 := r45.cell 2 _ rfl
    have d3 := r45.cell 3 _ rfl
    have d4 := r45.cell 4 _ rfl
    have d5 := r45.cell 5 _ rfl
    have d6 := r45.cell 6 _ rfl
    have d7 := r45.cell 7 _ rfl
    have d8 := r45.cell 8 _ rfl
    have d9 := r45.cell 9 _ rfl
    have d10 := r45.cell 10 _ rfl
    go_wp2_with fail
    refine CPB.out.mono ?_
    rintro e w6 ⟨ay, ky, rfl, hoy, hb6⟩
    have r36 := r35.below hb6
    have r46 := r45.below hb6
    have dx6 := dx.below hb6
    have B6 := NB.bel B5 hb6 B5.size
    clear CPB
    clear d0 d1 d2 d3 d4 d5 d6 d7 d8 d9 d10
    have HXY := Go.Lib.hid hPx
    clear hPx
    unfold NB.OwnB at hoy
    simp only at hoy ⊢
    obtain ⟨ay', ky', ee, Ry, _, _⟩ := NB.rd_of_own hoy
    cases ee
    have dy6 : NB.RdB w6 ay X.length ky X := Ry
    clear Ry hoy r35 r45 hb6 B5 dx
    by_cases hex : ex = 0
    case neg =>
      have heb : (ex != 0) = true := by simpa using hex
      clear HXY
      go_wp2_with fail
      go_ret
      exact ⟨rfl, B6⟩
    subst hex
    clear HXY
    have bx := Rd.bound dx6
    have bY := Rd.bound dy6
    have r39 := r36.below (dB _)
    have r49 := r46.below (dB _)
    have dx9 := dx6.below (dB _)
    have dy9 := dy6.below (dB _)
    have B9 := B6.drew
    clear r36 r46 dx6 dy6 B6
    go_wp2_with fail
    refine NB.wp_region_t [] (by kernel_rfl) ?_
    generalize w6.drew = w9 at *
    have HAB := Go.Lib.hid (rfl : (⟨kd1, bl1, sl1, sh1, sg1, cl1, sq1, ps1, cd1, xs1, bs1⟩ : Mm) = (⟨kd1, bl1, sl1, sh1, sg1, cl1, sq1, ps1, cd1, xs1, bs1⟩ : Mm))
    refine NB.t_p 0 rfl (by kernel_rfl) (fun K hK => ?_); go_simp; refine hK _ ?_; clear hK K
    refine NB.t_r 1 [4, 10, 11] rfl (by kernel_rfl) (by kernel_rfl) (by go_simp) _ (fun w' hw' => NB.run_op_conv_str Tryd.underlying22 Tryd.underlying5 Tryd.underlying9 rfl rfl (Rd.below dx9 hw')) (fun K hK => ?_); go_simp; refine hK _ ?_; clear hK K
    refine NB.t_p 2 rfl (by kernel_rfl) (fun K hK => ?_); go_simp; refine hK _ ?_; clear hK K
    refine NB.t_r 3 [4, 10, 11] rfl (by kernel_rfl) (by kernel_rfl) (by go_simp) _ (fun w' hw' => NB.run_op_conv_str Tryd.underlying22 Tryd.underlying5 Tryd.underlying9 rfl rfl (Rd.below dy9 hw')) (fun K hK => ?_); go_simp; refine hK _ ?_; clear hK K
    refine NB.t_p 4 rfl (by kernel_rfl) (fun K hK => ?_); go_simp; refine hK _ ?_; clear hK K
    refine NB.t_r 5 [6, 8, 9, 10, 11] rfl (by kernel_rfl) (by kernel_rfl) (by go_simp) _ (fun w' hw' => NB.run_op_load_agg (off := 0) (m := 11) rfl rfl Tryd.underlying32 rfl _ _ _ r39 (by kernel_rfl) (Nat.le_refl _) _ rfl hw') (fun K hK => ?_); go_simp; refine hK _ ?_; clear hK K
    refine NB.t_r 7 [8, 9, 10, 11] rfl (by kernel_rfl) (by kernel_rfl) (by go_simp) _ (fun w' hw' => NB.run_op_load_agg (off := 0) (m := 11) rfl rfl Tryd.underlying32 rfl _ _ _ r49 (by kernel_rfl) (Nat.le_refl _) _ rfl hw') (fun K hK => ?_); go_simp; refine hK _ ?_; clear hK K
    refine NB.t_e 6 rfl (by kernel_rfl) (by kernel_rfl) (fun K hK => ?_); unfold NB.tmoves; go_simp; refine (msgof_any w9 _ _ _ _ _ _ _ _ _ _ _ _ _ _ _ _ (MR1.out.below B9).body).mono ?_; rintro e w10 ⟨rfl, hb10⟩; refine ⟨_, rfl, hb10, hK _ _ ?_⟩; clear hK K
    refine NB.t_e 8 rfl (by kernel_rfl) (by kernel_rfl) (fun K hK => ?_); unfold NB.tmoves; go_simp; have B10 := NB.bel B9 hb10 B9.size; refine (msgof_any w10 _ _ _ _ _ _ _ _ _ _ _ _ _ _ _ _ (MR1.out.below B10).body).mono ?_; rintro e w11 ⟨rfl, hb11⟩; refine ⟨_, rfl, hb11, hK _ _ ?_⟩; clear hK K
    refine NB.t_e 9 rfl (by kernel_rfl) (by kernel_rfl) (fun K hK => ?_); unfold NB.tmoves; go_simp; have B11 := NB.bel B10 hb11 B10.size; refine (same_any w11 _ _ _ _ _ _ _ _ _ _ _ _ _ _ _ _ _ _ _ _ _ _ _ _ _ _ _ _ (MR1.out.below B11).vec (MR1.out.below B11).vec).mono ?_; rintro e w12 ⟨V, rfl, hV, hb12⟩; refine ⟨_, rfl, hb12, hK _ _ ?_⟩; clear hK K
    have hVt : V = true := hV.2 HAB.out
    subst hVt
    clear hV
    refine NB.t_p 10 rfl (by kernel_rfl) (fun K hK => ?_); go_simp; refine hK _ ?_; clear hK K
    refine NB.t_p 11 rfl (by kernel_rfl) (fun K hK => ?_); go_simp; refine hK _ ?_; clear hK K
    have B12 := NB.bel B11 hb12 B11.size
    refine NB.t_end (by kernel_rfl) ?_
    go_wp2_with fail
    go_ret
    exact ⟨rfl, B12⟩
end Go.Proofs.YtadgokegjmigoaaDoor
