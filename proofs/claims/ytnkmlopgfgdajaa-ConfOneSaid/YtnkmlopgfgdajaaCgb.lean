/- The walk for the statement ConfOne. -/
import Derived.Test.YtnkmlopgfgdajaaCga
namespace Go.Proofs.Ytnkmlopgfgdajaa
open Go.RowKit
open Go.NB (Rd RdU Kp Stp Dis Rr Rw oneB dB encU)

set_option maxHeartbeats 2000000 in
theorem law_cone (w : World) (a : Option Addr) (n c : Nat) (b : List UInt8) (q : Int) (h : NB.RdB w a n c b) (hq : (Lit.int .u16 q).wf = true) :
    Calls Try.prog 5 #[.slice a n c, .int .u16 q] w fun e w' => e = .returned (.bool true) ∧ Below w.heap.size w w' := by
  have hsz := NB.RdB.size h
  have hqb := bounds_u16 hq
  obtain ⟨q, rfl⟩ := Int.eq_ofNat_of_zero_le hqb.1
  clear hq
  by_cases hn : n ≤ 300
  case neg =>
    have hnz : ¬ (n : Int) ≤ 300 := by omega
    go_enter Try.func5, Try.ntmps5
    go_wp2_with (go_at_call 10; refine (cawake_any _).mono ?_; rintro e w1 ⟨rfl, hb1⟩)
    go_ret
    exact ⟨rfl, hb1⟩
  have hnz : (n : Int) ≤ 300 := by omega
  have cg := fun w hh => cget_any w a n c b hh (by omega)
  have hinv := fun C (hh : getM b = (C, 0)) => getM_inv hh
  have herr := fun hh => getM_err (b := b) hh
  obtain ⟨R, hR⟩ : ∃ R, getM b = R := ⟨_, rfl⟩
  rw [hR] at cg herr
  simp only [hR] at hinv
  obtain ⟨C, e⟩ := R
  simp only at herr
  have CG := Go.Lib.hid cg; have HINV := Go.Lib.hid hinv; have HERR := Go.Lib.hid herr; have HSZ := Go.Lib.hid hsz
  clear cg hinv herr hR hsz
  by_cases he : e = 0
  case neg =>
    have hC := HERR.out he
    subst hC
    have hne : (e != 0) = true := by simpa using he
    clear he HERR HINV
    go_enter Try.func5, Try.ntmps5
    go_wp2_with (first
      | (go_at_call 10; refine (cawake_any _).mono ?_; rintro e w1 ⟨rfl, hb1⟩)
      | (go_at_call 11; refine (CG.out _ (h.below hb1)).mono ?_; rintro e w2 ⟨a2, c2, L, rfl, hW, hmap, hb2⟩; obtain rfl : L = [] := (List.map_eq_nil_iff.1 hmap); simp only [cm0, List.length_nil]))
    have B2 := NB.bel hb1 hb2 hb1.size
    go_ret
    exact ⟨rfl, B2.alloc B2.size _⟩
  subst he
  obtain ⟨hck, hwf, hput⟩ := HINV.out C rfl
  have hpos : 0 < n := by rw [← HSZ.out, hput, putL]; simp
  obtain ⟨m, hm⟩ : ∃ m, m = q % n := ⟨_, rfl⟩
  have hml : m < n := by rw [hm]; exact Nat.mod_lt _ hpos
  have hmi : ((q : Int) % (n : Int)) = (m : Int) := by rw [hm]; simp
  have hcut := getM_cut hck hwf m (by rw [← hput, HSZ.out]; exact hml)
  rw [← hput] at hcut
  have hpm : putM C = (b, 0) := by unfold putM; rw [hck, if_pos rfl, ← hput]
  obtain ⟨w1', w2', w3', w4'⟩ := hwf
  obtain ⟨op, cl, sq, sh, sg, ps, rs⟩ := C
  simp only at w1' w2' w3'
  have HCUT := Go.Lib.hid hcut; have HPM := Go.Lib.hid hpm; have HM := Go.Lib.hid hm
  have hni : (0 : Int) < (n : Int) := by omega
  have hmz : (m : Int) < (n : Int) := by omega
  have hle := h.le
  have hmx := h.max
  have hmc : (m : Int) ≤ (c : Int) := by omega
  have hnn : ((n : Int) == 0) = false := by simp; omega
  clear hcut hpm hm hck hput HINV HERR w4'
  go_enter Try.func5, Try.ntmps5
  go_wp2_with fail
  refine (cawake_any _).mono ?_
  rintro e w1 ⟨rfl, hb1⟩
  go_wp2_with fail
  refine (CG.out _ (h.below hb1)).mono ?_
  rintro e w2 ⟨a2, c2, L, rfl, hW, hmap, hb2⟩
  have B2 := NB.bel hb1 hb2 hb1.size
  have cp := fun w hh => cput_any w op sh sg cl sq ps L.length c2 a2 L hh w1' w2' w3'
  have eta := cm_eta hmap
  simp only at eta
  rw [eta, HPM.out] at cp
  have CP := Go.Lib.hid cp
  have ob := oneB w2 (.cells #[.int .i64 op, .int .u64 (cl : Int), .int .u64 (sq : Int), .int .i64 sh, .int .i64 sg, .int .u64 (ps : Int), .slice a2 L.length c2] 27)
  have hW3 := hW.below ob
  have B3 := NB.bel B2 ob B2.size
  have hLb := Rd.bound hW.rd
  clear cp eta hmap hb1 hb2 hW ob B2 CG HPM
  simp only
  go_wp2_with fail
  refine (CP.out _ hW3).mono ?_
  rintro e w4 ⟨a4, c4, rfl, ho4, hb4⟩
  unfold NB.OwnB at ho4
  simp only at ho4 ⊢
  obtain ⟨a4', c4', e4, R4, _, _⟩ := NB.rd_of_own ho4
  cases e4
  have R4 : NB.RdB w4 a4 b.length c4 b := R4
  have B4 := NB.bel B3 hb4 B3.size
  have R0 := h.below B4
  clear ho4 hb4 hW3 B3 CP
  go_wp2_with fail
  refine (cget_any _ a m c (b.take m) (NB.rdB_cut R0 m (by omega)) (by omega)).mono ?_
  rw [HCUT.out]
  rintro e w5 ⟨a5, c5, L5, rfl, _, _, hb5⟩
  have B5 := NB.bel B4 hb5 B4.size
  have R5 := Rd.below R4 hb5
  have R50 := Rd.below R0 hb5
  have ob := oneB w5 (.cells #[.int .i64 cm0.op, .int .u64 (cm0.client : Int), .int .u64 (cm0.seq : Int), .int .i64 cm0.shard, .int .i64 cm0.segs, .int .u64 (cm0.pos : Int), .slice a5 L5.length c5] 27)
  have R6 := Rd.below R5 ob
  have R60 := Rd.below R50 ob
  have B6 := NB.bel B5 ob B5.size
  clear R4 R0 R5 R50 ob B5 B4 hb5
  simp only [cm0] at R6 R60 B6 ⊢
  go_wp2_with (first
    | (refine NB.wpList_conv_str rfl 22 9 (.tmp 53) rfl Try.underlying22 Try.underlying5 Try.underlying9 a4 b.length c4 b rfl R6 ?_)
    | (refine NB.wpList_conv_str rfl 22 9 (.tmp 55) rfl Try.underlying22 Try.underlying5 Try.underlying9 a n c b rfl R60 ?_))
  go_ret
  exact ⟨by simp, B6⟩
end Go.Proofs.Ytnkmlopgfgdajaa
