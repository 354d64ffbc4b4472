/- The walk for the statement FrameOne. -/
import Derived.Test.YtcipghogcehfnaaFrw
import Derived.Test.YtcipghogcehfnaaAny
namespace Go.Proofs.Ytcipghogcehfnaa
open Go.RowKit
open Go.NB (Rd Kp Stp Off Dis Rr encU oneB dB Rw digs)

theorem fget_no {b : List UInt8} (h : (fgetM b).2.2 ≠ 0) : (fgetM b).1 = (0, []) ∧ (fgetM b).2.1 = 0 := by
  rcases get_ways b with ⟨e, _, _, hm⟩ | ⟨x, l, _, _, _, _, hm⟩ | ⟨x, l, _, _, _, _, hm⟩ | ⟨x, l, _, _, _, _, _, hm⟩ | ⟨x, k, l, _, _, _, _, _, hm⟩
  · rw [hm]; exact ⟨rfl, rfl⟩
  · rw [hm]; exact ⟨rfl, rfl⟩
  · rw [hm]; exact ⟨rfl, rfl⟩
  · rw [hm]; exact ⟨rfl, rfl⟩
  · rw [hm] at h; exact absurd rfl h

set_option maxHeartbeats 2000000 in
theorem law_fone (w : World) (a : Option Addr) (n c : Nat) (b : List UInt8) (own : Bool) (k q : Int) (h : NB.RdB w a n c b) (hk : (Lit.int .u8 k).wf = true) (hq : (Lit.int .u16 q).wf = true) :
    Calls Try.prog 5 #[.slice a n c, .bool own, .int .u8 k, .int .u16 q] w fun e w' => e = .returned (.bool true) ∧ Below w.heap.size w w' := by
  have hsz := NB.RdB.size h
  obtain ⟨k, rfl⟩ : ∃ K : UInt8, k = (K.toNat : Int) := ⟨UInt8.ofNat k.toNat, (NB.u8_of_wf hk).symm⟩
  have hqb := bounds_u16 hq
  obtain ⟨q, rfl⟩ := Int.eq_ofNat_of_zero_le hqb.1
  clear hk hq
  by_cases hn : n ≤ 400
  · have hnz : (n : Int) ≤ 400 := by omega
    cases own with
    | true =>
      have cp := fun w h => fput_any w k a n c b h
      rw [fput_is (f := (k, b)) (by simp only; omega)] at cp
      have hlen := fbL_len (k, b)
      have hE : (encU b.length).length ≤ 9 := NB.encU_len (by omega)
      have hgg := fget_put (k, b) (by simp only; omega) []
      rw [List.append_nil] at hgg
      have hre : (fgetM (fbL (k, b))).2.2 = 0 := by rw [hgg]
      simp only at hlen
      have hZ2 : (fbL (k, b)).length ≤ 500 := by omega
      have HCP := Go.Lib.hid cp
      clear hlen hE hgg cp hsz
      generalize fbL (k, b) = C at *
      have hcz : (C.length : Int) ≤ 500 := by omega
      have HRE := Go.Lib.hid hre; clear hre
      go_enter Try.func5, Try.ntmps5
      go_wp2_with fail
      refine (fawake_any _).mono ?_
      rintro e w1 ⟨rfl, hb1⟩
      go_wp2_with fail
      refine (HCP.out _ (h.below hb1)).mono ?_
      rintro e w2 ⟨a2, c2, rfl, ho2, hb2⟩
      unfold NB.OwnB at ho2
      simp only at ho2 ⊢
      have B2 := NB.bel hb1 hb2 hb1.size
      obtain ⟨a2', c2', e2, R2, _, _⟩ := NB.rd_of_own ho2
      cases e2
      have R2 : NB.RdB w2 a2 C.length c2 C := R2
      clear ho2 hb1 hb2 h HCP
      go_wp2_with fail
      refine (fget_any _ a2 C.length c2 C R2 (by omega)).mono ?_
      rintro e w3 ⟨a3, n3, c3, rfl, r3, hb3, _⟩
      have hre := HRE.out; clear HRE
      obtain ⟨R, HR0⟩ : ∃ R, R = fgetM C := ⟨_, rfl⟩
      rw [← HR0] at r3 hre ⊢
      have HR := Go.Lib.hid HR0.symm; clear HR0
      obtain ⟨⟨rk, rb⟩, rn, re⟩ := R
      simp only at hre r3 ⊢
      have hre' : (re != 0) = false := by simp [hre]
      obtain ⟨hput, h6, hle, h65, -⟩ := fput_get (c := C) (f := (rk, rb)) (n := rn) (by rw [HR.out, hre])
      obtain ⟨m, hm⟩ : ∃ m, m = q % rn := ⟨_, rfl⟩
      have hml : m < rn := by rw [hm]; exact Nat.mod_lt _ (by omega)
      have hmi : ((q : Int) % (rn : Int)) = (m : Int) := by rw [hm]; simp
      have hcut := fget_cut (c := C) (f := (rk, rb)) (n := rn) (by rw [HR.out, hre]) m hml
      have hsz2 := NB.RdB.size R2
      have hle2 := R2.le
      have hmx2 := R2.max
      have hrn : (rn : Int) ≤ (C.length : Int) := by rw [hsz2] at hle; omega
      have hrc : (rn : Int) ≤ (c2 : Int) := by omega
      have hr6 : (6 : Int) ≤ (rn : Int) := by omega
      have hr1 : (1 : Int) ≤ (rn : Int) := by omega
      have hmr : (m : Int) < (rn : Int) := by omega
      have hmc : (m : Int) ≤ (c2 : Int) := by omega
      have hrnn : rn ≤ C.length := by omega
      have htl : ((C).take rn).length = rn := by rw [List.length_take]; omega
      have HPUT := Go.Lib.hid hput; have HCUT := Go.Lib.hid hcut; have HSZ := Go.Lib.hid hsz2; have HTL := Go.Lib.hid htl
      have B3 := NB.bel B2 hb3 B2.size
      have R3 := R2.below hb3
      have ob := oneB w3 (.cells #[.int .u8 (rk.toNat : Int), .slice a3 n3 c3] 25)
      have rowF := NB.rw_new w3 [.int .u8 (rk.toNat : Int), .slice a3 n3 c3] 25 rfl
      simp only [List.toArray] at rowF
      have B4 := NB.bel B3 ob B3.size
      have R4 := Rd.below R3 ob
      have r4 := Rd.below r3 ob
      clear hput hcut hsz2 htl hm hb3 B2 R2 B3 R3 r3 ob hle
      obtain ⟨d0, d1, _⟩ := NB.rw2 rowF
      go_wp2_with fail
      refine (fput_any _ rk a3 n3 c3 rb r4).mono ?_
      rw [HPUT.out]
      rintro e w5 ⟨a5, c5, rfl, ho5, hb5⟩
      unfold NB.OwnB at ho5
      simp only at ho5 ⊢
      rw [HTL.out] at ho5 ⊢
      obtain ⟨a5', c5', e5, r5, _, _⟩ := NB.rd_of_own ho5
      cases e5
      have B5 := NB.bel B4 hb5 B4.size
      have R5 := Rd.below R4 hb5
      have s5 : NB.RdB w5 a5 rn c5 ((C).take rn) := r5
      have t5 : NB.RdB w5 a2 rn c2 ((C).take rn) := NB.rdB_cut R5 rn hrnn
      clear ho5 hb5 r5 B4 R4 r4 d0 d1 rowF
      go_wp2_with fail
      refine NB.wp_region_t [] (by kernel_rfl) ?_
      have s6 := Rd.below s5 (dB w5)
      have t6 := Rd.below t5 (dB w5)
      have R6 := Rd.below R5 (dB w5)
      have B6 := B5.drew
      clear s5 t5 R5 B5
      generalize w5.drew = w6 at *
      refine NB.t_p 0 rfl (by kernel_rfl) (fun K hK => ?_); go_simp; refine hK _ ?_; clear hK K
      refine NB.t_p 1 rfl (by kernel_rfl) (fun K hK => ?_); go_simp; refine hK _ ?_; clear hK K
      refine NB.t_p 2 rfl (by kernel_rfl) (fun K hK => ?_); go_simp; refine hK _ ?_; clear hK K
      refine NB.t_p 3 rfl (by kernel_rfl) (fun K hK => ?_); go_simp; refine hK _ ?_; clear hK K
      refine NB.t_p 4 rfl (by kernel_rfl) (fun K hK => ?_); go_simp; refine hK _ ?_; clear hK K
      refine NB.t_p 5 rfl (by kernel_rfl) (fun K hK => ?_); go_simp; refine hK _ ?_; clear hK K
      refine NB.t_p 6 rfl (by kernel_rfl) (fun K hK => ?_); go_simp; refine hK _ ?_; clear hK K
      refine NB.t_p 7 rfl (by kernel_rfl) (fun K hK => ?_); go_simp; refine hK _ ?_; clear hK K
      refine NB.t_p 8 rfl (by kernel_rfl) (fun K hK => ?_); go_simp; refine hK _ ?_; clear hK K
      refine NB.t_p 9 rfl (by kernel_rfl) (fun K hK => ?_); go_simp; refine hK _ ?_; clear hK K
      refine NB.t_p 10 rfl (by kernel_rfl) (fun K hK => ?_); go_simp; refine hK _ ?_; clear hK K
      refine NB.t_p 11 rfl (by kernel_rfl) (fun K hK => ?_); go_simp; refine hK _ ?_; clear hK K
      refine NB.t_p 12 rfl (by kernel_rfl) (fun K hK => ?_); go_simp; refine hK _ ?_; clear hK K
      refine NB.t_p 13 rfl (by kernel_rfl) (fun K hK => ?_); go_simp; refine hK _ ?_; clear hK K
      refine NB.t_r 14 [19, 20] rfl (by kernel_rfl) (by kernel_rfl) (by go_simp) _ (fun w' hw' => NB.run_op_conv_str Try.underlying22 Try.underlying5 Try.underlying9 rfl rfl (Rd.below s6 hw')) (fun K hK => ?_); go_simp; refine hK _ ?_; clear hK K
      refine NB.t_p 15 rfl (by kernel_rfl) (fun K hK => ?_); go_simp; refine hK _ ?_; clear hK K
      refine NB.t_p 16 rfl (by kernel_rfl) (fun K hK => ?_); go_simp; refine hK _ ?_; clear hK K
      refine NB.t_p 17 rfl (by kernel_rfl) (fun K hK => ?_); go_simp; refine hK _ ?_; clear hK K
      refine NB.t_r 18 [19, 20] rfl (by kernel_rfl) (by kernel_rfl) (by go_simp) _ (fun w' hw' => NB.run_op_conv_str Try.underlying22 Try.underlying5 Try.underlying9 rfl rfl (Rd.below t6 hw')) (fun K hK => ?_); go_simp; refine hK _ ?_; clear hK K
      refine NB.t_p 19 rfl (by kernel_rfl) (fun K hK => ?_); go_simp; refine hK _ ?_; clear hK K
      refine NB.t_p 20 rfl (by kernel_rfl) (fun K hK => ?_); go_simp; refine hK _ ?_; clear hK K
      refine NB.t_end (by kernel_rfl) ?_
      go_wp2_with fail
      refine (fget_any _ _ _ _ _ (NB.rdB_cut R6 m (by omega)) (by omega)).mono ?_
      rintro e w7 ⟨a7, n7, c7, rfl, _, hb7, _⟩
      rw [HCUT.out]
      have B7 := NB.bel B6 hb7 B6.size
      go_wp2_with fail
      go_ret
      exact ⟨by simp, B7.alloc B7.size _⟩
    | false =>
      go_enter Try.func5, Try.ntmps5
      go_wp2_with fail
      refine (fawake_any _).mono ?_
      rintro e w1 ⟨rfl, B2⟩
      have R2 : NB.RdB w1 a n c b := h.below B2
      clear h
      go_wp2_with fail
      refine (fget_any _ a n c b R2 (by omega)).mono ?_
      rintro e w3 ⟨a3, n3, c3, rfl, r3, hb3, _⟩
      obtain ⟨R, HR0⟩ : ∃ R, R = fgetM b := ⟨_, rfl⟩
      have hno := fun h => fget_no (b := b) h
      rw [← HR0] at r3 hno ⊢
      have HR := Go.Lib.hid HR0.symm; clear HR0
      obtain ⟨⟨rk, rb⟩, rn, re⟩ := R
      simp only at r3 hno ⊢
      by_cases hre : re = 0
      · have hre' : (re != 0) = false := by simp [hre]
        clear hno
        obtain ⟨hput, h6, hle, h65, -⟩ := fput_get (c := b) (f := (rk, rb)) (n := rn) (by rw [HR.out, hre])
        obtain ⟨m, hm⟩ : ∃ m, m = q % rn := ⟨_, rfl⟩
        have hml : m < rn := by rw [hm]; exact Nat.mod_lt _ (by omega)
        have hmi : ((q : Int) % (rn : Int)) = (m : Int) := by rw [hm]; simp
        have hcut := fget_cut (c := b) (f := (rk, rb)) (n := rn) (by rw [HR.out, hre]) m hml
        have hsz2 := NB.RdB.size R2
        have hle2 := R2.le
        have hmx2 := R2.max
        have hrn : (rn : Int) ≤ (n : Int) := by rw [hsz2] at hle; omega
        have hrc : (rn : Int) ≤ (c : Int) := by omega
        have hr6 : (6 : Int) ≤ (rn : Int) := by omega
        have hr1 : (1 : Int) ≤ (rn : Int) := by omega
        have hmr : (m : Int) < (rn : Int) := by omega
        have hmc : (m : Int) ≤ (c : Int) := by omega
        have hrnn : rn ≤ n := by omega
        have htl : ((b).take rn).length = rn := by rw [List.length_take]; omega
        have HPUT := Go.Lib.hid hput; have HCUT := Go.Lib.hid hcut; have HSZ := Go.Lib.hid hsz2; have HTL := Go.Lib.hid htl
        have B3 := NB.bel B2 hb3 B2.size
        have R3 := R2.below hb3
        have ob := oneB w3 (.cells #[.int .u8 (rk.toNat : Int), .slice a3 n3 c3] 25)
        have rowF := NB.rw_new w3 [.int .u8 (rk.toNat : Int), .slice a3 n3 c3] 25 rfl
        simp only [List.toArray] at rowF
        have B4 := NB.bel B3 ob B3.size
        have R4 := Rd.below R3 ob
        have r4 := Rd.below r3 ob
        clear hput hcut hsz2 htl hm hb3 B2 R2 B3 R3 r3 ob hle
        obtain ⟨d0, d1, _⟩ := NB.rw2 rowF
        go_wp2_with fail
        refine (fput_any _ rk a3 n3 c3 rb r4).mono ?_
        rw [HPUT.out]
        rintro e w5 ⟨a5, c5, rfl, ho5, hb5⟩
        unfold NB.OwnB at ho5
        simp only at ho5 ⊢
        rw [HTL.out] at ho5 ⊢
        obtain ⟨a5', c5', e5, r5, _, _⟩ := NB.rd_of_own ho5
        cases e5
        have B5 := NB.bel B4 hb5 B4.size
        have R5 := Rd.below R4 hb5
        have s5 : NB.RdB w5 a5 rn c5 ((b).take rn) := r5
        have t5 : NB.RdB w5 a rn c ((b).take rn) := NB.rdB_cut R5 rn hrnn
        clear ho5 hb5 r5 B4 R4 r4 d0 d1 rowF
        go_wp2_with fail
        refine NB.wp_region_t [] (by kernel_rfl) ?_
        have s6 := Rd.below s5 (dB w5)
        have t6 := Rd.below t5 (dB w5)
        have R6 := Rd.below R5 (dB w5)
        have B6 := B5.drew
        clear s5 t5 R5 B5
        generalize w5.drew = w6 at *
        refine NB.t_p 0 rfl (by kernel_rfl) (fun K hK => ?_); go_simp; refine hK _ ?_; clear hK K
        refine NB.t_p 1 rfl (by kernel_rfl) (fun K hK => ?_); go_simp; refine hK _ ?_; clear hK K
        refine NB.t_p 2 rfl (by kernel_rfl) (fun K hK => ?_); go_simp; refine hK _ ?_; clear hK K
        refine NB.t_p 3 rfl (by kernel_rfl) (fun K hK => ?_); go_simp; refine hK _ ?_; clear hK K
        refine NB.t_p 4 rfl (by kernel_rfl) (fun K hK => ?_); go_simp; refine hK _ ?_; clear hK K
        refine NB.t_p 5 rfl (by kernel_rfl) (fun K hK => ?_); go_simp; refine hK _ ?_; clear hK K
        refine NB.t_p 6 rfl (by kernel_rfl) (fun K hK => ?_); go_simp; refine hK _ ?_; clear hK K
        refine NB.t_p 7 rfl (by kernel_rfl) (fun K hK => ?_); go_simp; refine hK _ ?_; clear hK K
        refine NB.t_p 8 rfl (by kernel_rfl) (fun K hK => ?_); go_simp; refine hK _ ?_; clear hK K
        refine NB.t_p 9 rfl (by kernel_rfl) (fun K hK => ?_); go_simp; refine hK _ ?_; clear hK K
        refine NB.t_p 10 rfl (by kernel_rfl) (fun K hK => ?_); go_simp; refine hK _ ?_; clear hK K
        refine NB.t_p 11 rfl (by kernel_rfl) (fun K hK => ?_); go_simp; refine hK _ ?_; clear hK K
        refine NB.t_p 12 rfl (by kernel_rfl) (fun K hK => ?_); go_simp; refine hK _ ?_; clear hK K
        refine NB.t_p 13 rfl (by kernel_rfl) (fun K hK => ?_); go_simp; refine hK _ ?_; clear hK K
        refine NB.t_r 14 [19, 20] rfl (by kernel_rfl) (by kernel_rfl) (by go_simp) _ (fun w' hw' => NB.run_op_conv_str Try.underlying22 Try.underlying5 Try.underlying9 rfl rfl (Rd.below s6 hw')) (fun K hK => ?_); go_simp; refine hK _ ?_; clear hK K
        refine NB.t_p 15 rfl (by kernel_rfl) (fun K hK => ?_); go_simp; refine hK _ ?_; clear hK K
        refine NB.t_p 16 rfl (by kernel_rfl) (fun K hK => ?_); go_simp; refine hK _ ?_; clear hK K
        refine NB.t_p 17 rfl (by kernel_rfl) (fun K hK => ?_); go_simp; refine hK _ ?_; clear hK K
        refine NB.t_r 18 [19, 20] rfl (by kernel_rfl) (by kernel_rfl) (by go_simp) _ (fun w' hw' => NB.run_op_conv_str Try.underlying22 Try.underlying5 Try.underlying9 rfl rfl (Rd.below t6 hw')) (fun K hK => ?_); go_simp; refine hK _ ?_; clear hK K
        refine NB.t_p 19 rfl (by kernel_rfl) (fun K hK => ?_); go_simp; refine hK _ ?_; clear hK K
        refine NB.t_p 20 rfl (by kernel_rfl) (fun K hK => ?_); go_simp; refine hK _ ?_; clear hK K
        refine NB.t_end (by kernel_rfl) ?_
        go_wp2_with fail
        refine (fget_any _ _ _ _ _ (NB.rdB_cut R6 m (by omega)) (by omega)).mono ?_
        rintro e w7 ⟨a7, n7, c7, rfl, _, hb7, _⟩
        rw [HCUT.out]
        have B7 := NB.bel B6 hb7 B6.size
        go_wp2_with fail
        go_ret
        exact ⟨by simp, B7.alloc B7.size _⟩
      · obtain ⟨e1, e2⟩ := hno hre
        cases e1
        subst e2
        have hre' : (re != 0) = true := by simp [hre]
        have hsn := NB.RdB.size r3
        obtain rfl : n3 = 0 := by simpa using hsn.symm
        have B3 := NB.bel B2 hb3 B2.size
        clear hno hre hsn hb3 R2
        go_wp2_with fail
        go_ret
        exact ⟨rfl, B3.alloc B3.size _⟩
  · have hnz : ¬ (n : Int) ≤ 400 := by omega
    go_enter Try.func5, Try.ntmps5
    go_wp2_with (go_at_call 9; refine (fawake_any _).mono ?_; rintro e w1 ⟨rfl, hb1⟩)
    go_ret
    exact ⟨rfl, hb1⟩
end Go.Proofs.Ytcipghogcehfnaa
