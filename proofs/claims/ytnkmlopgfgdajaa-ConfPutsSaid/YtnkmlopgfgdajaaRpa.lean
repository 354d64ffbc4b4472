/- The reference's rows, walked: as they are put. -/
import Derived.Test.YtnkmlopgfgdajaaCfd
import Derived.Test.YtnkmlopgfgdajaaNre
import Derived.Test.YtnkmlopgfgdajaaTail
namespace Go.Proofs.Ytnkmlopgfgdajaa
open Go.RowKit
open Go.NB (Rd RdU oneB dB Rw encU)

set_option maxRecDepth 100000 in
set_option maxHeartbeats 8000000 in
theorem rrput_any (w : World) (n c : Nat) (a : Option Addr) (l : List Iw) (h : RdW w a n c l) (hn : n ≤ 100) (hrw : ∀ x ∈ l, 0 ≤ x.s ∧ x.s < 8 ∧ x.l.length < 5) :
    Calls Try.prog 39 #[.slice a n c] w (StrB w (encRs (l.map rlOf))) := by
  have hbd := Rd.bound h.rd
  have HLN := Go.Lib.hid h.len
  have hS : encRs (l.map rlOf) = encU n ++ l.flatMap (fun x => encR (rlOf x)) := by
    unfold encRs
    rw [List.length_map, h.len, List.flatMap_map]
  obtain ⟨G, hG⟩ : ∃ G, encRs (l.map rlOf) = G := ⟨_, rfl⟩
  rw [hG]
  rw [hG] at hS
  have HS := Go.Lib.hid hS
  have HRW := Go.Lib.hid hrw
  clear hG hS hrw
  have hnm : n < 18446744073709551616 := by omega
  go_enter Try.func39, Try.ntmps39
  go_wp2_with (go_at_call 38; refine (ruintR_any _ n hnm).mono ?_; rintro e w1 ⟨rfl, hb1⟩)
  go_loopw [3, 4] (fun y x wr => ∃ (i : Nat) (T : List UInt8), i ≤ n ∧ x = .int .i64 (i : Int) ∧ y = .string ⟨T.toArray⟩ ∧ T = encU n ++ (l.take i).flatMap (fun x => encR (rlOf x)) ∧ T.length ≤ 9 + 60 * i ∧ Below w.heap.size w wr) (fun _ x _ => n - (intOf x).toNat)
  case atStart => exact ⟨0, encU n, by omega, rfl, by simp, by simp, by have := NB.encU_len hnm; omega, hb1⟩
  case round =>
    clear hb1
    obtain ⟨i, T, hi, rfl, rfl, hT, hTl, B⟩ := hrel
    have HT := Go.Lib.hid hT
    clear hT
    by_cases hlt : i < n
    case neg =>
      have hii : ¬ (i : Int) < (n : Int) := by omega
      go_wp2_with fail
      go_ret
      have hTG : T = G := by rw [HT.out, HS.out, List.take_of_length_le (by have := HLN.out; omega)]
      exact ⟨by rw [hTG]; rfl, B⟩
    have hii : (i : Int) < (n : Int) := by omega
    obtain ⟨b, o, x, rfl, hx, q0, q1, rx⟩ := h.at i hlt
    obtain ⟨hs0, hs8, hl5⟩ := HRW.out x (List.mem_of_getElem? hx)
    have htk := take_flat (fun x => encR (rlOf x)) l i x hx
    obtain ⟨xs, xa, xn, xc, xl⟩ := x
    simp only at hs0 hs8 hl5 rx q0 q1 htk
    obtain ⟨s, rfl⟩ := Int.eq_ofNat_of_zero_le hs0
    have hxl := NB.RdU.size rx
    have hbx := Rd.bound rx.1
    have hxn : xn ≤ 4 := by omega
    have hsn : s < 18446744073709551616 := by omega
    have hxm : xn < 18446744073709551616 := by omega
    have hsw : IntKind.u64.wrap (s : Int) = (s : Int) := by rw [IntKind.wrap_u64]; omega
    have hxw : IntKind.u64.wrap (xn : Int) = (xn : Int) := by rw [IntKind.wrap_u64]; omega
    have s0i : (0 : Int) ≤ (s : Int) := by omega
    have s8i : (s : Int) < 8 := by omega
    have heq : T ++ (encU s ++ encU xn) ++ xl.flatMap encU = encU n ++ (l.take (i + 1)).flatMap (fun x => encR (rlOf x)) := by
      rw [htk, HT.out]
      simp [encR, rlOf, hxl]
    have hs9 := NB.encU_len hsn
    have hx9 := NB.encU_len hxm
    have k1 : ¬ 9223372036854775807 < (encU s).length + (encU xn).length := by omega
    have k2 : ¬ 9223372036854775807 < T.length + ((encU s).length + (encU xn).length) := by omega
    have hT3 : (T ++ (encU s ++ encU xn)).length ≤ 9 + 60 * i + 18 := by rw [List.length_append, List.length_append]; omega
    have HEQ := Go.Lib.hid heq
    have HXL := Go.Lib.hid hxl
    clear htk hxl hx hl5 hs0 heq HT
    have B8 := B.drew
    have d0 := (B.cell (p := ⟨b, o + i * 2, none⟩) (World.block_lt_of_cell? w _ q0)).trans q0
    have d1 := (B.cell (p := ⟨b, o + i * 2 + 1, none⟩) (World.block_lt_of_cell? w _ q1)).trans q1
    have p0 := (B8.cell (p := ⟨b, o + i * 2, none⟩) (World.block_lt_of_cell? w _ q0)).trans q0
    have p1 := (B8.cell (p := ⟨b, o + i * 2 + 1, none⟩) (World.block_lt_of_cell? w _ q1)).trans q1
    have HQ1 := Go.Lib.hid q1
    clear q0 q1
    go_wp2_with fail
    clear d0 d1
    refine NB.wp_region_t [] (by kernel_rfl) ?_
    generalize wr.drew = w8 at *
    refine NB.t_p 0 rfl (by kernel_rfl) (fun K hK => ?_); go_simp; refine hK _ ?_; clear hK K
    refine NB.t_p 1 rfl (by kernel_rfl) (fun K hK => ?_); go_simp; refine hK _ ?_; clear hK K
    refine NB.t_p 2 rfl (by kernel_rfl) (fun K hK => ?_); go_simp; refine hK _ ?_; clear hK K
    refine NB.t_p 3 rfl (by kernel_rfl) (fun K hK => ?_); go_simp; refine hK _ ?_; clear hK K
    refine NB.t_p 4 rfl (by kernel_rfl) (fun K hK => ?_); go_simp; refine hK _ ?_; clear hK K
    refine NB.t_r 5 [6, 7, 15, 16, 17, 18] rfl (by kernel_rfl) (by kernel_rfl) (by go_simp) _ (fun w' hw' => NB.run_op_load rfl rfl Try.underlying3 rfl p0 hw') (fun K hK => ?_); go_simp; refine hK _ ?_; clear hK K
    refine NB.t_p 6 rfl (by kernel_rfl) (fun K hK => ?_); go_simp; refine hK _ ?_; clear hK K
    refine NB.t_p 8 rfl (by kernel_rfl) (fun K hK => ?_); go_simp; refine hK _ ?_; clear hK K
    refine NB.t_p 9 rfl (by kernel_rfl) (fun K hK => ?_); go_simp; refine hK _ ?_; clear hK K
    refine NB.t_p 10 rfl (by kernel_rfl) (fun K hK => ?_); go_simp; refine hK _ ?_; clear hK K
    refine NB.t_p 11 rfl (by kernel_rfl) (fun K hK => ?_); go_simp; refine hK _ ?_; clear hK K
    refine NB.t_r 12 [13, 14, 15, 16, 17, 18] rfl (by kernel_rfl) (by kernel_rfl) (by go_simp) _ (fun w' hw' => NB.run_op_load rfl rfl Try.underlying48 rfl p1 hw') (fun K hK => ?_); go_simp; refine hK _ ?_; clear hK K
    refine NB.t_p 13 rfl (by kernel_rfl) (fun K hK => ?_); go_simp; refine hK _ ?_; clear hK K
    refine NB.t_p 14 rfl (by kernel_rfl) (fun K hK => ?_); go_simp; refine hK _ ?_; clear hK K
    refine NB.t_e 7 rfl (by kernel_rfl) (by kernel_rfl) (fun K hK => ?_); unfold NB.tmoves; go_simp; refine (ruintR_any w8 s hsn).mono ?_; rintro e w9 ⟨rfl, hb9⟩; refine ⟨_, rfl, hb9, hK _ _ ?_⟩; clear hK K
    refine NB.t_e 15 rfl (by kernel_rfl) (by kernel_rfl) (fun K hK => ?_); unfold NB.tmoves; go_simp; refine (ruintR_any w9 xn hxm).mono ?_; rintro e w10 ⟨rfl, hb10⟩; refine ⟨_, rfl, hb10, hK _ _ ?_⟩; clear hK K
    refine NB.t_p 16 rfl (by kernel_rfl) (fun K hK => ?_); go_simp; refine hK _ ?_; clear hK K
    refine NB.t_p 17 rfl (by kernel_rfl) (fun K hK => ?_); go_simp; refine hK _ ?_; clear hK K
    refine NB.t_p 18 rfl (by kernel_rfl) (fun K hK => ?_); go_simp; refine hK _ ?_; clear hK K
    have B10 := NB.bel (NB.bel B8 hb9 B8.size) hb10 (NB.bel B8 hb9 B8.size).size
    refine NB.t_end (by kernel_rfl) ?_
    clear hb9 hb10 B8 p0 p1 B
    go_wp2_with fail
    go_loopw [3, 5] (fun y x wi => ∃ (k : Nat) (T2 : List UInt8), k ≤ xn ∧ x = .int .i64 (k : Int) ∧ y = .string ⟨T2.toArray⟩ ∧ T2 = T ++ (encU s ++ encU xn) ++ (xl.take k).flatMap encU ∧ T2.length ≤ 9 + 60 * i + 18 + 9 * k ∧ Below w.heap.size w wi) (fun _ x _ => xn - (intOf x).toNat)
    case atStart => exact ⟨0, T ++ (encU s ++ encU xn), by omega, rfl, by simp, by simp, by omega, B10⟩
    case round =>
      clear B10
      obtain ⟨k, T2, hk, rfl, rfl, hT2, hT2l, BI⟩ := hrel
      have HT2 := Go.Lib.hid hT2
      clear hT2
      have q1 := HQ1.out
      have d1 := (BI.cell (p := ⟨b, o + i * 2 + 1, none⟩) (World.block_lt_of_cell? w _ q1)).trans q1
      clear q1
      by_cases hkl : k < xn
      case neg =>
        have hki : ¬ (k : Int) < (xn : Int) := by omega
        go_wp2_with fail
        go_roundw
        case rel => exact ⟨i + 1, T2, by omega, by go_num, rfl, by rw [HT2.out, ← HEQ.out, List.take_of_length_le (by have := HXL.out; omega)], by omega, BI⟩
        case measure => simp [intOf]; omega
      have hki : (k : Int) < (xn : Int) := by omega
      obtain ⟨b2, o2, hc2, rfl⟩ := NB.RdU.at (rx.below BI) k hkl
      have hy64 : xl.getD k 0 < 18446744073709551616 := by
        have hxl := HXL.out
        rw [List.getD_eq_getElem?_getD, List.getElem?_eq_getElem (by omega)]
        exact rx.2 _ (List.getElem_mem _)
      have htk2 := take_flat encU xl k (xl.getD k 0) (by
        have hxl := HXL.out
        rw [List.getD_eq_getElem?_getD, List.getElem?_eq_getElem (by omega)]; rfl)
      have HTK2 := Go.Lib.hid htk2
      clear htk2
      generalize xl.getD k 0 = y at *
      have hy9 := NB.encU_len hy64
      have k3 : ¬ 9223372036854775807 < T2.length + (encU y).length := by omega
      go_wp2_with (go_at_call 38; refine (ruintR_any _ y hy64).mono ?_; rintro e w5 ⟨rfl, hb5⟩)
      go_roundw
      case rel => exact ⟨k + 1, T2 ++ encU y, by omega, by go_num, by simp, by rw [HT2.out, HTK2.out, List.append_assoc], by rw [List.length_append]; omega, NB.bel BI hb5 BI.size⟩
      case measure => simp [intOf]; omega
end Go.Proofs.Ytnkmlopgfgdajaa
