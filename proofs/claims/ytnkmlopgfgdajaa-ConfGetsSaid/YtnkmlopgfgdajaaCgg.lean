/- The walk for the statement ConfGets. -/
import Derived.Test.YtnkmlopgfgdajaaCga
import Derived.Test.YtnkmlopgfgdajaaRci
import Derived.Test.YtnkmlopgfgdajaaRcj
import Derived.Test.YtnkmlopgfgdajaaRck
namespace Go.Proofs.Ytnkmlopgfgdajaa
open Go.RowKit
open Go.NB (Rd RdU Kp Stp Dis Rr Rw oneB dB encU)

set_option maxHeartbeats 4000000 in
theorem law_cgets (w : World) (a : Option Addr) (n c : Nat) (b : List UInt8) (h : NB.RdB w a n c b) :
    Calls Try.prog 3 #[.slice a n c] w fun e w' => e = .returned (.bool true) ∧ Below w.heap.size w w' := by
  have hsz := NB.RdB.size h
  by_cases hn : n ≤ 300
  case neg =>
    have hnz : ¬ (n : Int) ≤ 300 := by omega
    go_enter Try.func3, Try.ntmps3
    go_wp2_with (go_at_call 10; refine (cawake_any _).mono ?_; rintro e w1 ⟨rfl, hb1⟩)
    go_ret
    exact ⟨rfl, hb1⟩
  have hnz : (n : Int) ≤ 300 := by omega
  have cg := fun w hh => cget_any w a n c b hh (by omega)
  have cr := fun w => rcget_any w b (by omega)
  have hrows : ∀ L : List Iw, L.map rlOf = (getM b).1.rows → L.length ≤ 100000 := fun L hL => by
    cases hk : (getM b).2 with
    | ofNat k =>
      by_cases he : (getM b).2 = 0
      · have h2 : getM b = ((getM b).1, 0) := by rw [← he]
        obtain ⟨hck, _, _⟩ := getM_inv h2
        simp only [checkB, Bool.and_eq_true] at hck
        have := (rowsOk_all (-1) _ (by omega) (by omega) hck.1).1
        rw [← hL, List.length_map] at this
        omega
      · rw [getM_err he] at hL
        have : L = [] := List.map_eq_nil_iff.1 hL
        rw [this]; simp
    | negSucc k =>
      rw [getM_err (by rw [hk]; intro h; cases h)] at hL
      have : L = [] := List.map_eq_nil_iff.1 hL
      rw [this]; simp
  generalize getM b = R at *
  obtain ⟨C, e⟩ := R
  obtain ⟨op, cl, sq, sh, sg, ps, rs⟩ := C
  unfold GetC at cg cr
  simp only at cg cr hrows
  have CG := Go.Lib.hid cg; have CR := Go.Lib.hid cr; have HR := Go.Lib.hid hrows
  clear cg cr hsz hrows
  go_enter Try.func3, Try.ntmps3
  go_wp2_with fail
  refine (cawake_any _).mono ?_
  rintro e' w1 ⟨rfl, hb1⟩
  go_wp2_with fail
  refine (CG.out _ (h.below hb1)).mono ?_
  rintro e' w2 ⟨a2, c2, L, rfl, hW, hmap, hb2⟩
  have B2 := NB.bel hb1 hb2 hb1.size
  have hL5 := HR.out L hmap
  have ob := oneB w2 (.cells #[.int .i64 op, .int .u64 (cl : Int), .int .u64 (sq : Int), .int .i64 sh, .int .i64 sg, .int .u64 (ps : Int), .slice a2 L.length c2] 27)
  have rC := NB.rw_new w2 [.int .i64 op, .int .u64 (cl : Int), .int .u64 (sq : Int), .int .i64 sh, .int .i64 sg, .int .u64 (ps : Int), .slice a2 L.length c2] 27 rfl
  simp only [List.toArray] at rC
  have hW3 := hW.below ob
  have B3 := NB.bel B2 ob B2.size
  have R3 := h.below B3
  have hLb := Rd.bound hW.rd
  clear CG hb1 hb2 ob hW B2
  go_wp2_with (refine NB.wpList_conv_str rfl 22 9 (.tmp 20) rfl Try.underlying22 Try.underlying5 Try.underlying9 a n c b rfl R3 ?_)
  refine (CR.out _).mono ?_
  rintro e' w4 ⟨a4, c4, L4, rfl, hW4, hmap4, hb4⟩
  have hlen : L4.length = L.length := by
    have h1 := congrArg List.length hmap4
    have h2 := congrArg List.length hmap
    rw [List.length_map] at h1 h2
    omega
  rw [hlen] at hW4 ⊢
  have rC4 := rC.below hb4
  have hW34 := hW3.below hb4
  have B4 := NB.bel B3 hb4 B3.size
  have ob := oneB w4 (.cells #[.int .i64 op, .int .u64 (cl : Int), .int .u64 (sq : Int), .int .i64 sh, .int .i64 sg, .int .u64 (ps : Int), .slice a4 L.length c4] 33)
  have rM := NB.rw_new w4 [.int .i64 op, .int .u64 (cl : Int), .int .u64 (sq : Int), .int .i64 sh, .int .i64 sg, .int .u64 (ps : Int), .slice a4 L.length c4] 33 rfl
  simp only [List.toArray] at rM
  have rC5 := rC4.below ob
  have hWc := hW34.below ob
  have hWm := hW4.below ob
  have B5 := NB.bel B4 ob B4.size
  have hLb4 := Rd.bound hW4.rd
  have HMAP := Go.Lib.hid hmap; have HMAP4 := Go.Lib.hid hmap4; have HLEN := Go.Lib.hid hlen
  clear CR hb4 ob hW4 hW34 hW3 rC rC4 B4 B3 R3 hmap hmap4 hlen
  go_wp2_with fail
  have d := dB (w4.alloc (.cells #[.int .i64 op, .int .u64 (cl : Int), .int .u64 (sq : Int), .int .i64 sh, .int .i64 sg, .int .u64 (ps : Int), .slice a4 L.length c4] 33))
  have rC6 := rC5.below d
  have rM6 := rM.below d
  have hWc6 := hWc.below d
  have hWm6 := hWm.below d
  have B6 := B5.drew
  clear d rC5 rM hWc hWm B5
  refine NB.wp_region_t [] (by kernel_rfl) ?_
  generalize (w4.alloc (.cells #[.int .i64 op, .int .u64 (cl : Int), .int .u64 (sq : Int), .int .i64 sh, .int .i64 sg, .int .u64 (ps : Int), .slice a4 L.length c4] 33)).drew = w6 at *
  generalize w4.heap.size = gm at *
  generalize w2.heap.size = gc at *
  refine NB.t_p 0 rfl (by kernel_rfl) (fun K hK => ?_); go_simp; refine hK _ ?_; clear hK K
  refine NB.t_p 1 rfl (by kernel_rfl) (fun K hK => ?_); go_simp; refine hK _ ?_; clear hK K
  refine NB.t_p 2 rfl (by kernel_rfl) (fun K hK => ?_); go_simp; refine hK _ ?_; clear hK K
  refine NB.t_p 3 rfl (by kernel_rfl) (fun K hK => ?_); go_simp; refine hK _ ?_; clear hK K
  refine NB.t_r 4 [5, 7, 8, 9] rfl (by kernel_rfl) (by kernel_rfl) (by go_simp) _ (fun w' hw' => NB.run_op_load_agg (off := 0) (m := 7) rfl rfl Try.underlying27 rfl _ _ _ rC6 (by kernel_rfl) (Nat.le_refl _) _ rfl hw') (fun K hK => ?_); go_simp; refine hK _ ?_; clear hK K
  refine NB.t_r 6 [7, 8, 9] rfl (by kernel_rfl) (by kernel_rfl) (by go_simp) _ (fun w' hw' => NB.run_op_load_agg (off := 0) (m := 7) rfl rfl Try.underlying33 rfl _ _ _ rM6 (by kernel_rfl) (Nat.le_refl _) _ rfl hw') (fun K hK => ?_); go_simp; refine hK _ ?_; clear hK K
  refine NB.t_e 5 rfl (by kernel_rfl) (by kernel_rfl) (fun K hK => ?_); unfold NB.tmoves; go_simp; refine (cof_any w6 op sh sg cl sq ps L.length c2 a2 L hWc6 hL5).mono ?_; rintro e' w7 ⟨a7, c7, rfl, hW7, hb7⟩; refine ⟨_, rfl, hb7, hK _ _ ?_⟩; clear hK K
  have B7 := NB.bel B6 hb7 B6.size
  have hWm7 := hWm6.below hb7
  refine NB.t_e 7 rfl (by kernel_rfl) (by kernel_rfl) (fun K hK => ?_); unfold NB.tmoves; go_simp; refine (same_any w7 op sh sg op sh sg cl sq ps L.length c7 cl sq ps L.length c4 a7 a4 L L4 hW7 hWm7).mono ?_; rintro e' w8 ⟨V, rfl, hV, hb8⟩; refine ⟨_, rfl, hb8, hK _ _ ?_⟩; clear hK K
  have B9 := NB.bel B7 hb8 B7.size
  have hVt : V = true := hV.2 (by unfold cmOf; rw [HMAP.out, HMAP4.out])
  subst hVt
  clear hV
  refine NB.t_p 8 rfl (by kernel_rfl) (fun K hK => ?_); go_simp; refine hK _ ?_; clear hK K
  refine NB.t_p 9 rfl (by kernel_rfl) (fun K hK => ?_); go_simp; refine hK _ ?_; clear hK K
  refine NB.t_end (by kernel_rfl) ?_
  go_wp2_with fail
  go_ret
  exact ⟨rfl, B9⟩
end Go.Proofs.Ytnkmlopgfgdajaa
