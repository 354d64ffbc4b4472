/- The law MsgPuts. -/
import Derived.Test.YtadgokegjmigoaaDoorMgs
import Derived.Test.YtadgokegjmigoaaDoorMgv
import Derived.Test.YtadgokegjmigoaaDoorRmy
namespace Go.Proofs.YtadgokegjmigoaaDoor
open Go.RowKit Go.Shelf
open Go.NB (Rd Kp Stp Off Dis oneB dB Rw RdU Lp Rr encU encB digs)

set_option maxRecDepth 100000 in
set_option maxHeartbeats 8000000 in
theorem law_mputs (w : World) (hT : Tb w) (m : Mm) (av : Option Addr) (cv : Nat) (ab : Option Addr) (cb : Nat) (wf : WfM m) (mr : MsgR w m av cv ab cb) :
    Calls Tryd.prog 4 #[.agg (msgV m av cv ab cb).toArray] w fun e w' => e = .returned (.bool true) ∧ Below w.heap.size w w' := by
  have HT := Go.Lib.hid hT
  have cp := fun w hT hR => mput_any w hT m av cv ab cb hR wf
  have ck := fun w hT => mcheck_any w hT m av cv ab cb
  have HMR := mr
  have WF := Go.Lib.hid wf; have MR := Go.Lib.hid mr
  have bv := Rd.bound mr.vec.1; have bb := Rd.bound mr.body
  have CP := Go.Lib.hid cp; have CK := Go.Lib.hid ck
  clear hT cp ck wf mr HMR
  obtain ⟨kd, bl, sl, sh, sg, cl, sq, ps, cd, xs, bs⟩ := m
  unfold msgV at CP CK ⊢
  simp only [List.toArray] at CP CK bv bb ⊢
  have ob := oneB w (.cells #[.int .i64 kd, .int .u64 (bl : Int), .int .u64 (sl : Int), .int .i64 sh, .int .i64 sg, .int .u64 (cl : Int), .int .u64 (sq : Int), .int .u64 (ps : Int), .int .i64 cd, .slice av xs.length cv, .slice ab bs.length cb] 32)
  have q3 : Rw (w.alloc (.cells #[.int .i64 kd, .int .u64 (bl : Int), .int .u64 (sl : Int), .int .i64 sh, .int .i64 sg, .int .u64 (cl : Int), .int .u64 (sq : Int), .int .u64 (ps : Int), .int .i64 cd, .slice av xs.length cv, .slice ab bs.length cb] 32)) w.heap.size [.int .i64 kd, .int .u64 (bl : Int), .int .u64 (sl : Int), .int .i64 sh, .int .i64 sg, .int .u64 (cl : Int), .int .u64 (sq : Int), .int .u64 (ps : Int), .int .i64 cd, .slice av xs.length cv, .slice ab bs.length cb] 32 := NB.rw_new w [.int .i64 kd, .int .u64 (bl : Int), .int .u64 (sl : Int), .int .i64 sh, .int .i64 sg, .int .u64 (cl : Int), .int .u64 (sq : Int), .int .u64 (ps : Int), .int .i64 cd, .slice av xs.length cv, .slice ab bs.length cb] 32 rfl
  go_enter Tryd.func4, Tryd.ntmps4
  go_wp2_with fail
  refine (mawake_any _ (HT.out.grow ob)).mono ?_
  rintro e w1 ⟨rfl, hb1⟩
  have r3 := q3.below hb1
  have B4 := NB.bel ob hb1 ob.size
  clear q3 hb1 ob
  have d0 := r3.cell 0 _ rfl
  have d1 := r3.cell 1 _ rfl
  have d2 := r3.cell 2 _ rfl
  have d3 := r3.cell 3 _ rfl
  have d4 := r3.cell 4 _ rfl
  have d5 := r3.cell 5 _ rfl
  have d6 := r3.cell 6 _ rfl
  have d7 := r3.cell 7 _ rfl
  have d8 := r3.cell 8 _ rfl
  have d9 := r3.cell 9 _ rfl
  have d10 := r3.cell 10 _ rfl
  by_cases hl0 : xs.length ≤ 300
  case neg =>
    have hz : ¬ (xs.length : Int) ≤ 300 := by omega
    go_wp2_with fail
    go_ret
    exact ⟨rfl, B4⟩
  have hz0 : (xs.length : Int) ≤ 300 := by omega
  by_cases hl1 : bs.length ≤ 300
  case neg =>
    have hz : ¬ (bs.length : Int) ≤ 300 := by omega
    go_wp2_with fail
    go_ret
    exact ⟨rfl, B4⟩
  have hz1 : (bs.length : Int) ≤ 300 := by omega
  have cpr := fun W hR => rmput_any W (⟨kd, bl, sl, sh, sg, cl, sq, ps, cd, xs, bs⟩ : Mm) av cv (by simp only; omega) (by simp only; omega) WF.out hR
  have rck := fun W => rcheck_any W (⟨kd, bl, sl, sh, sg, cl, sq, ps, cd, xs, bs⟩ : Mm) av cv (by simp only; omega) (by simp only; omega) WF.out bv.2
  simp only at cpr rck
  have CPA := Go.Lib.hid (CP.out _ (HT.out.grow B4) (MR.out.below B4))
  obtain ⟨kc, hkc⟩ : ∃ kc, mcheckM (⟨kd, bl, sl, sh, sg, cl, sq, ps, cd, xs, bs⟩ : Mm) = kc := ⟨_, rfl⟩
  rw [hkc] at CK rck
  have CPR := Go.Lib.hid cpr; have RCK := Go.Lib.hid rck
  clear cpr rck hkc CP
  obtain ⟨PX, hPx⟩ : ∃ PX, mputM (⟨kd, bl, sl, sh, sg, cl, sq, ps, cd, xs, bs⟩ : Mm) = PX := ⟨_, rfl⟩
  rw [hPx] at CPR CPA
  obtain ⟨X, ex⟩ := PX
  have HPX := Go.Lib.hid hPx
  clear hPx
  go_wp2_with fail
  refine CPA.out.mono ?_
  rintro e w2 ⟨ax, kx, rfl, hox, hb2⟩
  have r4 := r3.below hb2
  have B5 := NB.bel B4 hb2 B4.size
  unfold NB.OwnB at hox
  simp only at hox ⊢
  obtain ⟨ax', kx', ee, Rx, _, _⟩ := NB.rd_of_own hox
  cases ee
  have dx : NB.RdB w2 ax X.length kx X := Rx
  clear Rx hox r3 hb2 B4 CPA
  clear d0 d1 d2 d3 d4 d5 d6 d7 d8 d9 d10
  have d0 := r4.cell 0 _ rfl
  have d1 := r4.cell 1 _ rfl
  have d2 := r4.cell 2 _ rfl
  have d3 := r4.cell 3 _ rfl
  have d4 := r4.cell 4 _ rfl
  have d5 := r4.cell 5 _ rfl
  have d6 := r4.cell 6 _ rfl
  have d7 := r4.cell 7 _ rfl
  have d8 := r4.cell 8 _ rfl
  have d9 := r4.cell 9 _ rfl
  have d10 := r4.cell 10 _ rfl
  go_wp2_with fail
  refine (msgof_any w2 _ _ _ _ _ _ _ _ _ _ _ _ _ _ _ _ (MR.out.below B5).body).mono ?_
  rintro e w3 ⟨rfl, hb3⟩
  have r5 := r4.below hb3
  have B6 := NB.bel B5 hb3 B5.size
  have dx3 := Rd.below dx hb3
  clear r4 B5 dx hb3
  clear d0 d1 d2 d3 d4 d5 d6 d7 d8 d9 d10
  go_wp2_with fail
  refine (CPR.out w3 (MR.out.below B6).vec).mono ?_
  rintro e w4 ⟨rfl, hb4⟩
  have r6 := r5.below hb4
  have B7 := NB.bel B6 hb4 B6.size
  have dx4 := Rd.below dx3 hb4
  clear r5 B6 dx3 hb4
  simp only
  have bX := Rd.bound dx4
  go_wp2_with fail
  refine NB.wp_region_t [] (by kernel_rfl) ?_
  have z1 := r6.below (dB w4)
  have B9 := B7.drew
  have dx9 := Rd.below dx4 (dB w4)
  clear r6 B7 dx4
  generalize w4.drew = w9 at *
  refine NB.t_r 0 [1, 3, 4, 5, 6, 7, 8, 9, 10, 11, 12, 13, 14, 15, 16] rfl (by kernel_rfl) (by kernel_rfl) (by go_simp) _ (fun w' hw' => NB.run_op_load_agg (off := 0) (m := 11) rfl rfl Tryd.underlying32 rfl _ _ _ z1 (by kernel_rfl) (Nat.le_refl _) _ rfl hw') (fun K hK => ?_); go_simp; refine hK _ ?_; clear hK K
  refine NB.t_r 2 [3, 4, 5, 6, 7, 8, 9, 10, 11, 12, 13, 14, 15, 16] rfl (by kernel_rfl) (by kernel_rfl) (by go_simp) _ (fun w' hw' => NB.run_op_load_agg (off := 0) (m := 11) rfl rfl Tryd.underlying32 rfl _ _ _ z1 (by kernel_rfl) (Nat.le_refl _) _ rfl hw') (fun K hK => ?_); go_simp; refine hK _ ?_; clear hK K
  refine NB.t_e 1 rfl (by kernel_rfl) (by kernel_rfl) (fun K hK => ?_); unfold NB.tmoves; go_simp; refine (CK.out w9 (HT.out.grow B9)).mono ?_; rintro e w10 ⟨rfl, hb10⟩; refine ⟨_, rfl, hb10, hK _ _ ?_⟩; clear hK K
  refine NB.t_e 3 rfl (by kernel_rfl) (by kernel_rfl) (fun K hK => ?_); unfold NB.tmoves; go_simp; have B10 := NB.bel B9 hb10 B9.size; refine (msgof_any w10 _ _ _ _ _ _ _ _ _ _ _ _ _ _ _ _ (MR.out.below B10).body).mono ?_; rintro e w11 ⟨rfl, hb11⟩; refine ⟨_, rfl, hb11, hK _ _ ?_⟩; clear hK K
  refine NB.t_e 4 rfl (by kernel_rfl) (by kernel_rfl) (fun K hK => ?_); unfold NB.tmoves; go_simp; refine (RCK.out w11).mono ?_; rintro e w12 ⟨rfl, hb12⟩; refine ⟨_, rfl, hb12, hK _ _ ?_⟩; clear hK K
  refine NB.t_p 5 rfl (by kernel_rfl) (fun K hK => ?_); go_simp; refine hK _ ?_; clear hK K
  refine NB.t_p 6 rfl (by kernel_rfl) (fun K hK => ?_); go_simp; refine hK _ ?_; clear hK K
  refine NB.t_p 7 rfl (by kernel_rfl) (fun K hK => ?_); go_simp; refine hK _ ?_; clear hK K
  have dx12 := Rd.below (Rd.below (Rd.below dx9 hb10) hb11) hb12
  refine NB.t_r 8 [10, 11, 12, 13, 14, 15, 16] rfl (by kernel_rfl) (by kernel_rfl) (by go_simp) _ (fun w' hw' => NB.run_op_conv_str Tryd.underlying22 Tryd.underlying5 Tryd.underlying9 rfl rfl (Rd.below dx12 hw')) (fun K hK => ?_); go_simp; refine hK _ ?_; clear hK K
  refine NB.t_p 9 rfl (by kernel_rfl) (fun K hK => ?_); go_simp; refine hK _ ?_; clear hK K
  refine NB.t_p 10 rfl (by kernel_rfl) (fun K hK => ?_); go_simp; refine hK _ ?_; clear hK K
  refine NB.t_p 11 rfl (by kernel_rfl) (fun K hK => ?_); go_simp; refine hK _ ?_; clear hK K
  refine NB.t_p 12 rfl (by kernel_rfl) (fun K hK => ?_); go_simp; refine hK _ ?_; clear hK K
  refine NB.t_p 13 rfl (by kernel_rfl) (fun K hK => ?_); go_simp; refine hK _ ?_; clear hK K
  refine NB.t_p 14 rfl (by kernel_rfl) (fun K hK => ?_); go_simp; refine hK _ ?_; clear hK K
  refine NB.t_p 15 rfl (by kernel_rfl) (fun K hK => ?_); go_simp; refine hK _ ?_; clear hK K
  refine NB.t_p 16 rfl (by kernel_rfl) (fun K hK => ?_); go_simp; refine hK _ ?_; clear hK K
  refine NB.t_end (by kernel_rfl) ?_
  have B10 := NB.bel B9 hb10 B9.size
  have B11 := NB.bel B10 hb11 B10.size
  have B12 := NB.bel B11 hb12 B11.size
  have y0 := ((z1.below hb10).below hb11).below hb12
  clear z1 dx9 B9 B10 B11 hb10 hb11 hb12
  by_cases hex : ex = 0
  case neg =>
    have heb : (ex != 0) = true := by simpa using hex
    go_wp2_with fail
    go_ret
    exact ⟨rfl, B12⟩
  subst hex
  have hc : mcheckB (⟨kd, bl, sl, sh, sg, cl, sq, ps, cd, xs, bs⟩ : Mm) = true := by
    cases hk : mcheckB (⟨kd, bl, sl, sh, sg, cl, sq, ps, cd, xs, bs⟩ : Mm) with
    | true => rfl
    | false =>
      have := HPX.out
      rw [mput_no (by rw [hk]; simp)] at this
      exact absurd (Prod.mk.inj this).2 (by decide)
  have hg : mgetM (fbL (frOfM (⟨kd, bl, sl, sh, sg, cl, sq, ps, cd, xs, bs⟩ : Mm))) = ((⟨kd, bl, sl, sh, sg, cl, sq, ps, cd, xs, bs⟩ : Mm), 0) := by
    have := mget_put hc WF.out []
    rwa [List.append_nil, if_pos rfl] at this
  have hX : fbL (frOfM (⟨kd, bl, sl, sh, sg, cl, sq, ps, cd, xs, bs⟩ : Mm)) = X := by
    have := HPX.out
    rw [mput_ok hc WF.out] at this
    exact (Prod.mk.inj this).1
  rw [hX] at hg
  have HG := Go.Lib.hid hg
  have hXl : X.length ≤ 40020 := by
    obtain ⟨_, _, hok⟩ := mcheck_parts hc WF.out
    have h1 := body_len (⟨kd, bl, sl, sh, sg, cl, sq, ps, cd, xs, bs⟩ : Mm) hok
    have h2 := fbL_len (frOfM (⟨kd, bl, sl, sh, sg, cl, sq, ps, cd, xs, bs⟩ : Mm))
    have h3 : (encU (frOfM (⟨kd, bl, sl, sh, sg, cl, sq, ps, cd, xs, bs⟩ : Mm)).2.length).length ≤ 9 := NB.encU_len (by show (bodyL (⟨kd, bl, sl, sh, sg, cl, sq, ps, cd, xs, bs⟩ : Mm)).length < _; omega)
    have h4 : (frOfM (⟨kd, bl, sl, sh, sg, cl, sq, ps, cd, xs, bs⟩ : Mm)).2.length = (bodyL (⟨kd, bl, sl, sh, sg, cl, sq, ps, cd, xs, bs⟩ : Mm)).length := rfl
    rw [hX] at h2
    omega
  clear hg hX hc HPX
  go_wp2_with fail
  refine (mget_any w12 (HT.out.grow B12) ax X.length kx X dx12 (by omega)).mono ?_
  rw [HG.out]
  rintro e w13 ⟨av9, cv9, ab9, cb9, rfl, hM, hb13, _, _⟩
  have B13 := NB.bel B12 hb13 B12.size
  have y1 := y0.below hb13
  have y8 : Rw (w13.alloc (.cells #[.int .i64 kd, .int .u64 (bl : Int), .int .u64 (sl : Int), .int .i64 sh, .int .i64 sg, .int .u64 (cl : Int), .int .u64 (sq : Int), .int .u64 (ps : Int), .int .i64 cd, .slice av9 xs.length cv9, .slice ab9 bs.length cb9] 32)) w13.heap.size [.int .i64 kd, .int .u64 (bl : Int), .int .u64 (sl : Int), .int .i64 sh, .int .i64 sg, .int .u64 (cl : Int), .int .u64 (sq : Int), .int .u64 (ps : Int), .int .i64 cd, .slice av9 xs.length cv9, .slice ab9 bs.length cb9] 32 := NB.rw_new w13 [.int .i64 kd, .int .u64 (bl : Int), .int .u64 (sl : Int), .int .i64 sh, .int .i64 sg, .int .u64 (cl : Int), .int .u64 (sq : Int), .int .u64 (ps : Int), .int .i64 cd, .slice av9 xs.length cv9, .slice ab9 bs.length cb9] 32 rfl
  have ob9 := oneB w13 (.cells #[.int .i64 kd, .int .u64 (bl : Int), .int .u64 (sl : Int), .int .i64 sh, .int .i64 sg, .int .u64 (cl : Int), .int .u64 (sq : Int), .int .u64 (ps : Int), .int .i64 cd, .slice av9 xs.length cv9, .slice ab9 bs.length cb9] 32)
  have C8 := NB.bel B13 ob9 B13.size
  have MG0 := hM.below ob9
  have y18 := y1.below ob9
  clear hM hb13 y0 y1 B13 B12 ob9 dx12
  unfold msgV
  simp only [List.toArray]
  go_wp2_with fail
  refine NB.wp_region_t [] (by kernel_rfl) ?_
  have C9 := C8.drew
  have y1 := y18.below (dB _)
  have y8 := y8.below (dB _)
  have MG := MG0.below (dB _)
  clear MG0 y18 C8
  generalize (w13.alloc (.cells #[.int .i64 kd, .int .u64 (bl : Int), .int .u64 (sl : Int), .int .i64 sh, .int .i64 sg, .int .u64 (cl : Int), .int .u64 (sq : Int), .int .u64 (ps : Int), .int .i64 cd, .slice av9 xs.length cv9, .slice ab9 bs.length cb9] 32)).drew = v9 at *
  refine NB.t_p 0 rfl (by kernel_rfl) (fun K hK => ?_); go_simp; refine hK _ ?_; clear hK K
  refine NB.t_p 1 rfl (by kernel_rfl) (fun K hK => ?_); go_simp; refine hK _ ?_; clear hK K
  refine NB.t_p 2 rfl (by kernel_rfl) (fun K hK => ?_); go_simp; refine hK _ ?_; clear hK K
  refine NB.t_r 3 [4, 6, 7, 8, 9] rfl (by kernel_rfl) (by kernel_rfl) (by go_simp) _ (fun w' hw' => NB.run_op_load_agg (off := 0) (m := 11) rfl rfl Tryd.underlying32 rfl _ _ _ y8 (by kernel_rfl) (Nat.le_refl _) _ rfl hw') (fun K hK => ?_); go_simp; refine hK _ ?_; clear hK K
  refine NB.t_r 5 [6, 7, 8, 9] rfl (by kernel_rfl) (by kernel_rfl) (by go_simp) _ (fun w' hw' => NB.run_op_load_agg (off := 0) (m := 11) rfl rfl Tryd.underlying32 rfl _ _ _ y1 (by kernel_rfl) (Nat.le_refl _) _ rfl hw') (fun K hK => ?_); go_simp; refine hK _ ?_; clear hK K
  refine NB.t_e 4 rfl (by kernel_rfl) (by kernel_rfl) (fun K hK => ?_); unfold NB.tmoves; go_simp; refine (msgof_any v9 _ _ _ _ _ _ _ _ _ _ _ _ _ _ _ _ MG.body).mono ?_; rintro e v10 ⟨rfl, hc10⟩; refine ⟨_, rfl, hc10, hK _ _ ?_⟩; clear hK K
  refine NB.t_e 6 rfl (by kernel_rfl) (by kernel_rfl) (fun K hK => ?_); unfold NB.tmoves; go_simp; have C10 := NB.bel C9 hc10 C9.size; refine (msgof_any v10 _ _ _ _ _ _ _ _ _ _ _ _ _ _ _ _ (MR.out.below C10).body).mono ?_; rintro e v11 ⟨rfl, hc11⟩; refine ⟨_, rfl, hc11, hK _ _ ?_⟩; clear hK K
  refine NB.t_e 7 rfl (by kernel_rfl) (by kernel_rfl) (fun K hK => ?_); unfold NB.tmoves; go_simp; have C11 := NB.bel C10 hc11 C10.size; refine (same_any v11 _ _ _ _ _ _ _ _ _ _ _ _ _ _ _ _ _ _ _ _ _ _ _ _ _ _ _ _ ((MG.below hc10).below hc11).vec (MR.out.below C11).vec).mono ?_; rintro e v12 ⟨V, rfl, hV, hc12⟩; refine ⟨_, rfl, hc12, hK _ _ ?_⟩; clear hK K
  have hVt : V = true := hV.2 rfl
  subst hVt
  clear hV
  refine NB.t_p 8 rfl (by kernel_rfl) (fun K hK => ?_); go_simp; refine hK _ ?_; clear hK K
  refine NB.t_p 9 rfl (by kernel_rfl) (fun K hK => ?_); go_simp; refine hK _ ?_; clear hK K
  refine NB.t_end (by kernel_rfl) ?_
  have C12 := NB.bel C11 hc12 C11.size
  go_wp2_with fail
  go_ret
  exact ⟨rfl, C12⟩
end Go.Proofs.YtadgokegjmigoaaDoor
