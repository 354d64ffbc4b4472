/- The walk for the statement ConfPuts. -/
import Derived.Test.YtnkmlopgfgdajaaCgc
import Derived.Test.YtnkmlopgfgdajaaRci
import Derived.Test.YtnkmlopgfgdajaaRcj
import Derived.Test.YtnkmlopgfgdajaaRpb
namespace Go.Proofs.Ytnkmlopgfgdajaa
open Go.RowKit
open Go.NB (Rd RdU Kp Stp Dis Rr Rw oneB dB encU)

set_option maxRecDepth 100000 in
set_option maxHeartbeats 8000000 in
theorem law_cputs (w : World) (op sh sg : Int) (cl sq ps : Nat) (a : Option Addr) (n c : Nat) (L : List Iw)
    (hx : cl < 18446744073709551616 ∧ sq < 18446744073709551616 ∧ ps < 18446744073709551616) (h : RdW w a n c L) :
    Calls Try.prog 4 #[.agg #[.int .i64 op, .int .u64 (cl : Int), .int .u64 (sq : Int), .int .i64 sh, .int .i64 sg, .int .u64 (ps : Int), .slice a n c]] w fun e w' => e = .returned (.bool true) ∧ Below w.heap.size w w' := by
  have hbd := Rd.bound h.rd
  obtain ⟨h1, h2, h3⟩ := hx
  have ob := oneB w (.cells #[.int .i64 op, .int .u64 (cl : Int), .int .u64 (sq : Int), .int .i64 sh, .int .i64 sg, .int .u64 (ps : Int), .slice a n c] 27)
  have r0 := NB.rw_new w [.int .i64 op, .int .u64 (cl : Int), .int .u64 (sq : Int), .int .i64 sh, .int .i64 sg, .int .u64 (ps : Int), .slice a n c] 27 rfl
  simp only [List.toArray] at r0
  have cs := fun w hh => short_any w op sh sg cl sq ps n c a L hh
  have hV12 : shortB L = true → n ≤ 100000 := fun hv => by
    unfold shortB at hv
    simp only [Bool.and_eq_true, decide_eq_true_eq] at hv
    have := hv.1
    rw [h.len] at this
    omega
  generalize shortB L = V at *
  have hwf : WfC (cmOf op cl sq sh sg ps L) := ⟨h1, h2, h3, fun r hr => by
    obtain ⟨x, hx, rfl⟩ := List.mem_map.1 hr
    exact (h.it x hx).2⟩
  have hget : ∀ bs ec, putM (cmOf op cl sq sh sg ps L) = (bs, ec) → ec = 0 → getM bs = (cmOf op cl sq sh sg ps L, 0) ∧ bs.length ≤ 1000 := fun bs ec hp he => by
    cases hk : checkB (cmOf op cl sq sh sg ps L) with
    | false => unfold putM at hp; rw [hk, if_neg (by simp)] at hp; injection hp with _ hq; omega
    | true =>
      unfold putM at hp
      rw [hk, if_pos rfl] at hp
      injection hp with hp1 _
      have hg := getM_put hk hwf []
      rw [List.append_nil, if_pos rfl, hp1] at hg
      refine ⟨hg, ?_⟩
      rw [← hp1]
      exact putL_len (op := op) (sh := sh) (sg := sg) (L := L) ⟨h1, h2, h3⟩ (fun x hx => (h.it x hx).2) hk
  have hce : checkM (cmOf op cl sq sh sg ps L) = (putM (cmOf op cl sq sh sg ps L)).2 := by unfold checkM putM; split <;> rfl
  have cp := fun w hh => cput_any w op sh sg cl sq ps n c a L hh h1 h2 h3
  have rp := fun w a' c' hh => rput_any w op sh sg cl sq ps n c' a' L hh h1 h2 h3
  have ck := fun w hh => check_any w op sh sg cl sq ps n c a L hh
  have rk := fun w a' c' hh => rcheck_any w op sh sg cl sq ps n c' a' L hh
  rw [hce] at ck rk
  generalize hPM : putM (cmOf op cl sq sh sg ps L) = P at *
  obtain ⟨bs, ec⟩ := P
  have hgt := hget bs ec rfl
  simp only at ck rk
  have hge : ec = 0 → ∀ w' a' c', NB.RdB w' a' bs.length c' bs → Calls Try.prog 11 #[.slice a' bs.length c'] w' (GetC w' (⟨op, cl, sq, sh, sg, ps, L.map rlOf⟩, 0)) := fun he w' a' c' hr => by
    have := cget_any w' a' bs.length c' bs hr (by have := (hgt he).2; omega)
    rw [(hgt he).1] at this
    exact this
  unfold GetC at hge
  simp only at hge
  have CS := Go.Lib.hid cs; have CP := Go.Lib.hid cp; have RP := Go.Lib.hid rp; have CK := Go.Lib.hid ck; have RK := Go.Lib.hid rk; have GE := Go.Lib.hid hge; have HV := Go.Lib.hid hV12; have HLN := Go.Lib.hid h.len
  clear cs cp rp ck rk hge hget hgt hce hwf hV12 hPM
  cases V with
  | false =>
    go_enter Try.func4, Try.ntmps4
    go_wp2_with fail
    refine (cawake_any _).mono ?_
    rintro e w1 ⟨rfl, hb1⟩
    have r1 := r0.below hb1
    have B1 := NB.bel ob hb1 ob.size
    obtain ⟨c0, c1, c2, c3, c4, c5, c6, _⟩ := NB.rw7 r1
    go_wp2_with (go_at_call 15; refine (CS.out _ (h.below B1)).mono ?_; rintro e w2 ⟨rfl, hb2⟩)
    go_ret
    exact ⟨rfl, NB.bel B1 hb2 B1.size⟩
  | true =>
    have HN := Go.Lib.hid (HV.out rfl)
    clear HV
    go_enter Try.func4, Try.ntmps4
    go_wp2_with fail
    refine (cawake_any _).mono ?_
    rintro e w1 ⟨rfl, hb1⟩
    have r1 := r0.below hb1
    have B1 := NB.bel ob hb1 ob.size
    obtain ⟨c0, c1, c2, c3, c4, c5, c6, _⟩ := NB.rw7 r1
    clear r0 ob hb1
    go_wp2_with fail
    refine (CS.out _ (h.below B1)).mono ?_
    rintro e w2 ⟨rfl, hb2⟩
    have r2 := r1.below hb2
    have B2 := NB.bel B1 hb2 B1.size
    clear c0 c1 c2 c3 c4 c5 c6
    obtain ⟨c0, c1, c2, c3, c4, c5, c6, _⟩ := NB.rw7 r2
    clear r1 hb2 B1 CS
    go_wp2_with fail
    refine (CP.out _ (h.below B2)).mono ?_
    rintro e w3 ⟨a3, k3, rfl, ho3, hb3⟩
    unfold NB.OwnB at ho3
    simp only at ho3 ⊢
    obtain ⟨a3', k3', e3, R3, _, _⟩ := NB.rd_of_own ho3
    cases e3
    have rd3 : NB.RdB w3 a3 bs.length k3 bs := R3
    clear R3
    have r3 := r2.below hb3
    have B3 := NB.bel B2 hb3 B2.size
    clear c0 c1 c2 c3 c4 c5 c6
    obtain ⟨c0, c1, c2, c3, c4, c5, c6, _⟩ := NB.rw7 r3
    clear r2 hb3 B2 CP ho3
    go_wp2_with fail
    refine (cof_any w3 op sh sg cl sq ps n c a L (h.below B3) HN.out).mono ?_
    rintro e w4 ⟨a4, k4, rfl, hW4, hb4⟩
    go_wp2_with fail
    refine (RP.out w4 a4 k4 hW4).mono ?_
    rintro e w5 ⟨rfl, hb5⟩
    have r5 := ((r3.below hb4).below hb5).below (dB _)
    have rd6 := ((rd3.below hb4).below hb5).below (dB _)
    have B6 := (NB.bel (NB.bel B3 hb4 B3.size) hb5 (NB.bel B3 hb4 B3.size).size).drew
    have r6 := r5
    clear c0 c1 c2 c3 c4 c5 c6 r3 rd3 hb4 hb5 B3 RP hW4 r5
    have hbb := Rd.bound rd6
    go_wp2_with fail
    refine NB.wp_region_t [] (by kernel_rfl) ?_
    generalize w5.drew = w6 at *
    refine NB.t_r 0 [1, 3, 4, 5, 6, 7, 8, 9, 10, 11, 12, 13, 14, 15, 16] rfl (by kernel_rfl) (by kernel_rfl) (by go_simp) _ (fun w' hw' => NB.run_op_load_agg (off := 0) (m := 7) rfl rfl Try.underlying27 rfl _ _ _ r6 (by kernel_rfl) (Nat.le_refl _) _ rfl hw') (fun K hK => ?_); go_simp; refine hK _ ?_; clear hK K
    refine NB.t_r 2 [3, 4, 5, 6, 7, 8, 9, 10, 11, 12, 13, 14, 15, 16] rfl (by kernel_rfl) (by kernel_rfl) (by go_simp) _ (fun w' hw' => NB.run_op_load_agg (off := 0) (m := 7) rfl rfl Try.underlying27 rfl _ _ _ r6 (by kernel_rfl) (Nat.le_refl _) _ rfl hw') (fun K hK => ?_); go_simp; refine hK _ ?_; clear hK K
    refine NB.t_e 1 rfl (by kernel_rfl) (by kernel_rfl) (fun K hK => ?_); unfold NB.tmoves; go_simp; refine (CK.out w6 (h.below B6)).mono ?_; rintro e w7 ⟨rfl, hb7⟩; refine ⟨_, rfl, hb7, hK _ _ ?_⟩; clear hK K
    refine NB.t_e 3 rfl (by kernel_rfl) (by kernel_rfl) (fun K hK => ?_); unfold NB.tmoves; go_simp; have B7 := NB.bel B6 hb7 B6.size; refine (cof_any w7 op sh sg cl sq ps n c a L (h.below B7) HN.out).mono ?_; rintro e w8 ⟨a8, c8, rfl, hW8, hb8⟩; refine ⟨_, rfl, hb8, hK _ _ ?_⟩; clear hK K
    refine NB.t_e 4 rfl (by kernel_rfl) (by kernel_rfl) (fun K hK => ?_); unfold NB.tmoves; go_simp; refine (RK.out w8 a8 c8 hW8).mono ?_; rintro e w9 ⟨rfl, hb9⟩; refine ⟨_, rfl, hb9, hK _ _ ?_⟩; clear hK K
    have rd9 := ((rd6.below hb7).below hb8).below hb9
    refine NB.t_p 5 rfl (by kernel_rfl) (fun K hK => ?_); go_simp; refine hK _ ?_; clear hK K
    refine NB.t_p 6 rfl (by kernel_rfl) (fun K hK => ?_); go_simp; refine hK _ ?_; clear hK K
    refine NB.t_p 7 rfl (by kernel_rfl) (fun K hK => ?_); go_simp; refine hK _ ?_; clear hK K
    refine NB.t_r 8 [10, 11, 12, 13, 14, 15, 16] rfl (by kernel_rfl) (by kernel_rfl) (by go_simp) _ (fun w' hw' => NB.run_op_conv_str Try.underlying22 Try.underlying5 Try.underlying9 rfl rfl (Rd.below rd9 hw')) (fun K hK => ?_); go_simp; refine hK _ ?_; clear hK K
    refine NB.t_p 9 rfl (by kernel_rfl) (fun K hK => ?_); go_simp; refine hK _ ?_; clear hK K
    refine NB.t_p 10 rfl (by kernel_rfl) (fun K hK => ?_); go_simp; refine hK _ ?_; clear hK K
    refine NB.t_p 11 rfl (by kernel_rfl) (fun K hK => ?_); go_simp; refine hK _ ?_; clear hK K
    refine NB.t_p 12 rfl (by kernel_rfl) (fun K hK => ?_); go_simp; refine hK _ ?_; clear hK K
    refine NB.t_p 13 rfl (by kernel_rfl) (fun K hK => ?_); go_simp; refine hK _ ?_; clear hK K
    refine NB.t_p 14 rfl (by kernel_rfl) (fun K hK => ?_); go_simp; refine hK _ ?_; clear hK K
    refine NB.t_p 15 rfl (by kernel_rfl) (fun K hK => ?_); go_simp; refine hK _ ?_; clear hK K
    refine NB.t_p 16 rfl (by kernel_rfl) (fun K hK => ?_); go_simp; refine hK _ ?_; clear hK K
    have B8 := NB.bel B7 hb8 B7.size
    have B9 := NB.bel B8 hb9 B8.size
    have rC0 := ((r6.below hb7).below hb8).below hb9
    clear r6 rd6 B6 B7 B8 hb7 hb8 hb9 hW8 CK RK
    refine NB.t_end (by kernel_rfl) ?_
    by_cases he : ec = 0
    case neg =>
      have heb : (ec != 0) = true := by simpa using he
      go_wp2_with fail
      go_ret
      exact ⟨rfl, B9⟩
    have GE2 := Go.Lib.hid (GE.out he)
    clear GE
    subst he
    go_wp2_with fail
    refine (GE2.out w9 a3 k3 rd9).mono ?_
    rintro e w10 ⟨a10, c10, L10, rfl, hW10, hmap, hb10⟩
    have B10 := NB.bel B9 hb10 B9.size
    have hlen : L10.length = n := by
      have h9 := congrArg List.length hmap
      rw [List.length_map, List.length_map, HLN.out] at h9
      exact h9
    have HN10 := Go.Lib.hid (show L10.length ≤ 100000 by rw [hlen]; exact HN.out)
    have HMAP := Go.Lib.hid hmap
    have hb12 := Rd.bound hW10.rd
    clear hmap hlen rd9 GE2
    have ob := oneB w10 (.cells #[.int .i64 op, .int .u64 (cl : Int), .int .u64 (sq : Int), .int .i64 sh, .int .i64 sg, .int .u64 (ps : Int), .slice a10 L10.length c10] 27)
    have rD0 := NB.rw_new w10 [.int .i64 op, .int .u64 (cl : Int), .int .u64 (sq : Int), .int .i64 sh, .int .i64 sg, .int .u64 (ps : Int), .slice a10 L10.length c10] 27 rfl
    simp only [List.toArray] at rD0
    have rC1 := (rC0.below hb10).below ob
    have hW12 := hW10.below ob
    have B12 := NB.bel B10 ob B10.size
    clear hb10 ob hW10 rC0 B9 B10
    go_wp2_with fail
    have d := dB (w10.alloc (.cells #[.int .i64 op, .int .u64 (cl : Int), .int .u64 (sq : Int), .int .i64 sh, .int .i64 sg, .int .u64 (ps : Int), .slice a10 L10.length c10] 27))
    have rC := rC1.below d
    have rD := rD0.below d
    have hW13 := hW12.below d
    have B13 := B12.drew
    clear d rC1 rD0 hW12 B12
    refine NB.wp_region_t [] (by kernel_rfl) ?_
    generalize (w10.alloc (.cells #[.int .i64 op, .int .u64 (cl : Int), .int .u64 (sq : Int), .int .i64 sh, .int .i64 sg, .int .u64 (ps : Int), .slice a10 L10.length c10] 27)).drew = w13 at *
    generalize w10.heap.size = gd at *
    refine NB.t_p 0 rfl (by kernel_rfl) (fun K hK => ?_); go_simp; refine hK _ ?_; clear hK K
    refine NB.t_p 1 rfl (by kernel_rfl) (fun K hK => ?_); go_simp; refine hK _ ?_; clear hK K
    refine NB.t_p 2 rfl (by kernel_rfl) (fun K hK => ?_); go_simp; refine hK _ ?_; clear hK K
    refine NB.t_r 3 [4, 6, 7, 8, 9] rfl (by kernel_rfl) (by kernel_rfl) (by go_simp) _ (fun w' hw' => NB.run_op_load_agg (off := 0) (m := 7) rfl rfl Try.underlying27 rfl _ _ _ rD (by kernel_rfl) (Nat.le_refl _) _ rfl hw') (fun K hK => ?_); go_simp; refine hK _ ?_; clear hK K
    refine NB.t_r 5 [6, 7, 8, 9] rfl (by kernel_rfl) (by kernel_rfl) (by go_simp) _ (fun w' hw' => NB.run_op_load_agg (off := 0) (m := 7) rfl rfl Try.underlying27 rfl _ _ _ rC (by kernel_rfl) (Nat.le_refl _) _ rfl hw') (fun K hK => ?_); go_simp; refine hK _ ?_; clear hK K
    refine NB.t_e 4 rfl (by kernel_rfl) (by kernel_rfl) (fun K hK => ?_); unfold NB.tmoves; go_simp; refine (cof_any w13 op sh sg cl sq ps L10.length c10 a10 L10 hW13 HN10.out).mono ?_; rintro e w14 ⟨a14, c14, rfl, hW14, hb14⟩; refine ⟨_, rfl, hb14, hK _ _ ?_⟩; clear hK K
    refine NB.t_e 6 rfl (by kernel_rfl) (by kernel_rfl) (fun K hK => ?_); unfold NB.tmoves; go_simp; have B14 := NB.bel B13 hb14 B13.size; refine (cof_any w14 op sh sg cl sq ps n c a L (h.below B14) HN.out).mono ?_; rintro e w15 ⟨a15, c15, rfl, hW15, hb15⟩; refine ⟨_, rfl, hb15, hK _ _ ?_⟩; clear hK K
    refine NB.t_e 7 rfl (by kernel_rfl) (by kernel_rfl) (fun K hK => ?_); unfold NB.tmoves; go_simp; refine (same_any w15 op sh sg op sh sg cl sq ps L10.length c14 cl sq ps n c15 a14 a15 L10 L (hW14.below hb15) hW15).mono ?_; rintro e w16 ⟨V, rfl, hV, hb16⟩; refine ⟨_, rfl, hb16, hK _ _ ?_⟩; clear hK K
    have hVt : V = true := hV.2 (by unfold cmOf; rw [HMAP.out])
    subst hVt
    clear hV
    refine NB.t_p 8 rfl (by kernel_rfl) (fun K hK => ?_); go_simp; refine hK _ ?_; clear hK K
    refine NB.t_p 9 rfl (by kernel_rfl) (fun K hK => ?_); go_simp; refine hK _ ?_; clear hK K
    have B15 := NB.bel B14 hb15 B14.size
    have B16 := NB.bel B15 hb16 B15.size
    refine NB.t_end (by kernel_rfl) ?_
    go_wp2_with fail
    go_ret
    exact ⟨rfl, B16⟩
end Go.Proofs.Ytnkmlopgfgdajaa
