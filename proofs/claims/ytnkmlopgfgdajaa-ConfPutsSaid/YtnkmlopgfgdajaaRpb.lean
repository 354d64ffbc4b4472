/- The reference's Put, walked. -/
import Derived.Test.YtnkmlopgfgdajaaRpa
import Derived.Test.YtnkmlopgfgdajaaRcc
import Derived.Test.YtnkmlopgfgdajaaCga
namespace Go.Proofs.Ytnkmlopgfgdajaa
open Go.RowKit
open Go.NB (Rd RdU oneB dB Rw encU)

/-- A string and an error. -/
def StrE (w : World) (r : List UInt8 × Int) (e : Ending) (w' : World) : Prop := e = .returned (.tuple #[.string ⟨r.1.toArray⟩, .int .i64 r.2]) ∧ Below w.heap.size w w'

theorem flat_len {α : Type} (f : α → List UInt8) (m : Nat) (l : List α) (h : ∀ x ∈ l, (f x).length ≤ m) : (l.flatMap f).length ≤ m * l.length := by
  induction l with
  | nil => simp
  | cons x l ih =>
    have h1 := h x (by simp)
    have h2 := ih (fun y hy => h y (by simp [hy]))
    rw [List.flatMap_cons, List.length_append, List.length_cons, Nat.mul_add]
    omega
theorem encRs_len (l : List Rl) (hn : l.length ≤ 100) (h : ∀ r ∈ l, (0 ≤ r.s ∧ r.s < 8 ∧ r.l.length < 5) ∧ ∀ x ∈ r.l, x < 18446744073709551616) : (encRs l).length ≤ 10000 := by
  have h1 := NB.encU_len (x := l.length) (by omega)
  have h2 := flat_len encR 54 l (fun r hr => by
    obtain ⟨⟨a, b, c⟩, d⟩ := h r hr
    have e1 := NB.encU_len (x := r.s.toNat) (by omega)
    have e2 := NB.encU_len (x := r.l.length) (by omega)
    have e3 := flat_len encU 9 r.l (fun x hx => NB.encU_len (d x hx))
    unfold encR
    rw [List.length_append, List.length_append]
    omega)
  unfold encRs
  rw [List.length_append]
  omega

set_option maxHeartbeats 2000000 in
theorem rput_no (w : World) (op sh sg : Int) (cl sq ps n c : Nat) (a : Option Addr) (l : List Iw) (h : RdW w a n c l) (hno : checkB (cmOf op cl sq sh sg ps l) = false) :
    Calls Try.prog 17 #[.agg #[.int .i64 op, .int .u64 (cl : Int), .int .u64 (sq : Int), .int .i64 sh, .int .i64 sg, .int .u64 (ps : Int), .slice a n c]] w (StrE w ([], 1)) := by
  have hck : checkM (cmOf op cl sq sh sg ps l) = 1 := by unfold checkM; rw [hno]; rfl
  have cc := fun w hh => rcheck_any w op sh sg cl sq ps n c a l hh
  rw [hck] at cc
  have ob := oneB w (.cells #[.int .i64 op, .int .u64 (cl : Int), .int .u64 (sq : Int), .int .i64 sh, .int .i64 sg, .int .u64 (ps : Int), .slice a n c] 33)
  have h1 := h.below ob
  have CC := Go.Lib.hid cc
  clear hno hck cc
  go_enter Try.func17, Try.ntmps17
  go_wp2_with (go_at_call 19; refine (CC.out _ h1).mono ?_; rintro e w2 ⟨rfl, hb2⟩)
  go_ret2
  exact ⟨rfl, NB.bel ob hb2 ob.size⟩

set_option maxRecDepth 100000 in
set_option maxHeartbeats 8000000 in
theorem rput_k0 (w : World) (sh sg cl sq ps n c : Nat) (a : Option Addr) (l : List Iw) (h : RdW w a n c l) (hyes : checkB (cmOf 0 cl sq sh sg ps l) = true)
    (hcl : cl < 18446744073709551616) (hsq : sq < 18446744073709551616) (hsh : sh < 8) (hsg : sg < 5) (hps : ps < 18446744073709551616) (hn : n ≤ 100) (hrw : ∀ x ∈ l, 0 ≤ x.s ∧ x.s < 8 ∧ x.l.length < 5) :
    Calls Try.prog 17 #[.agg #[.int .i64 0, .int .u64 (cl : Int), .int .u64 (sq : Int), .int .i64 (sh : Int), .int .i64 (sg : Int), .int .u64 (ps : Int), .slice a n c]] w (StrE w (putL (cmOf 0 cl sq sh sg ps l), 0)) := by
  have hck : checkM (cmOf 0 cl sq sh sg ps l) = 0 := by unfold checkM; rw [hyes]; rfl
  have cc := fun w hh => rcheck_any w 0 sh sg cl sq ps n c a l hh
  rw [hck] at cc
  obtain ⟨G, hG⟩ : ∃ G, putL (cmOf 0 cl sq sh sg ps l) = G := ⟨_, rfl⟩
  rw [hG]
  have hg : G = [0] := by rw [← hG]; simp [putL, encF, cmOf]
  have hR := encRs_len (l.map rlOf) (by rw [List.length_map, h.len]; exact hn) (fun r hr => by
    obtain ⟨x, hx, rfl⟩ := List.mem_map.1 hr
    exact ⟨hrw x hx, (h.it x hx).2⟩)
  have HG := Go.Lib.hid hg; have CC := Go.Lib.hid cc; have HRW := Go.Lib.hid hrw
  clear hyes hck cc hG hg hrw
  generalize hRS : encRs (l.map rlOf) = RS at *
  have HRS := Go.Lib.hid hRS
  clear hRS
  have l1 := NB.encU_len hcl; have l2 := NB.encU_len hsq; have l5 := NB.encU_len hps
  have hs64 : sh < 18446744073709551616 := by omega
  have hg64 : sg < 18446744073709551616 := by omega
  have l3 := NB.encU_len hs64; have l4 := NB.encU_len hg64
  have hsw : IntKind.u64.wrap (sh : Int) = (sh : Int) := by rw [IntKind.wrap_u64]; omega
  have hgw : IntKind.u64.wrap (sg : Int) = (sg : Int) := by rw [IntKind.wrap_u64]; omega
  have ob := oneB w (.cells #[.int .i64 0, .int .u64 (cl : Int), .int .u64 (sq : Int), .int .i64 (sh : Int), .int .i64 (sg : Int), .int .u64 (ps : Int), .slice a n c] 33)
  have h1 := h.below ob
  have r1 := NB.rw_new w [.int .i64 0, .int .u64 (cl : Int), .int .u64 (sq : Int), .int .i64 (sh : Int), .int .i64 (sg : Int), .int .u64 (ps : Int), .slice a n c] 33 rfl
  simp only [List.toArray] at r1
  have k1 : (1 : Nat) ≤ maxLen := by unfold maxLen; omega
  go_enter Try.func17, Try.ntmps17
  go_wp2_with fail
  refine (CC.out _ h1).mono ?_
  rintro e w2 ⟨rfl, hb2⟩
  have r2 := r1.below hb2
  have h2 := h1.below hb2
  have B2 := NB.bel ob hb2 ob.size
  obtain ⟨c0, c1, c2, c3, c4, c5, c6, _⟩ := NB.rw7 r2
  clear CC r1 h1 ob hb2
  go_wp2_with (refine NB.wpList_conv_str rfl 22 9 (.tmp 15) rfl Try.underlying22 Try.underlying5 Try.underlying9 (some ⟨w2.heap.size, 0, none⟩) 1 1 [0] rfl (NB.rdB_lit (n := 1) [0] rfl rfl k1 rfl) ?_)
  have ob3 := oneB w2 (.cells #[.int .u8 0] 5)
  have r3 := (r2.below ob3).below (dB _)
  have h3 := (h2.below ob3).below (dB _)
  have B3 := (NB.bel B2 ob3 B2.size).drew
  clear r2 h2 B2 ob3 c0 c1 c2 c3 c4 c5 c6
  refine NB.wp_region_t [] (by kernel_rfl) ?_
  generalize (w2.alloc (.cells #[.int .u8 0] 5)).drew = w3 at *
  obtain ⟨c0, c1, c2, c3, c4, c5, c6, _⟩ := NB.rw7 r3
  have e1 : ¬ 9223372036854775807 < (encU cl).length + (encU sq).length := by omega
  refine NB.t_p 0 rfl (by kernel_rfl) (fun K hK => ?_); go_simp; refine hK _ ?_; clear hK K
  refine NB.t_r 1 [2, 5, 6, 7] rfl (by kernel_rfl) (by kernel_rfl) (by go_simp) _ (fun w' hw' => NB.run_op_load rfl rfl Try.underlying24 rfl c1 hw') (fun K hK => ?_); go_simp; refine hK _ ?_; clear hK K
  refine NB.t_p 3 rfl (by kernel_rfl) (fun K hK => ?_); go_simp; refine hK _ ?_; clear hK K
  refine NB.t_r 4 [5, 6, 7] rfl (by kernel_rfl) (by kernel_rfl) (by go_simp) _ (fun w' hw' => NB.run_op_load rfl rfl Try.underlying24 rfl c2 hw') (fun K hK => ?_); go_simp; refine hK _ ?_; clear hK K
  refine NB.t_e 2 rfl (by kernel_rfl) (by kernel_rfl) (fun K hK => ?_); unfold NB.tmoves; go_simp; refine (ruintR_any w3 cl hcl).mono ?_; rintro e w4 ⟨rfl, hb4⟩; refine ⟨_, rfl, hb4, hK _ _ ?_⟩; clear hK K
  refine NB.t_e 5 rfl (by kernel_rfl) (by kernel_rfl) (fun K hK => ?_); unfold NB.tmoves; go_simp; refine (ruintR_any w4 sq hsq).mono ?_; rintro e w5 ⟨rfl, hb5⟩; refine ⟨_, rfl, hb5, hK _ _ ?_⟩; clear hK K
  refine NB.t_p 6 rfl (by kernel_rfl) (fun K hK => ?_); go_simp; refine hK _ ?_; clear hK K
  refine NB.t_p 7 rfl (by kernel_rfl) (fun K hK => ?_); go_simp; refine hK _ ?_; clear hK K
  have B5 := NB.bel (NB.bel B3 hb4 B3.size) hb5 (NB.bel B3 hb4 B3.size).size
  have r5 := (r3.below hb4).below hb5
  have h5 := (h3.below hb4).below hb5
  clear c0 c1 c2 c3 c4 c5 c6 r3 h3 B3 hb4 hb5
  refine NB.t_end (by kernel_rfl) ?_
  obtain ⟨c0, c1, c2, c3, c4, c5, c6, _⟩ := NB.rw7 r5
  go_wp2_with fail
  go_ret2
  exact ⟨by rw [HG.out]; simp, B5⟩

set_option maxRecDepth 100000 in
set_option maxHeartbeats 8000000 in
theorem rput_k1 (w : World) (sh sg cl sq ps n c : Nat) (a : Option Addr) (l : List Iw) (h : RdW w a n c l) (hyes : checkB (cmOf 1 cl sq sh sg ps l) = true)
    (hcl : cl < 18446744073709551616) (hsq : sq < 18446744073709551616) (hsh : sh < 8) (hsg : sg < 5) (hps : ps < 18446744073709551616) (hn : n ≤ 100) (hrw : ∀ x ∈ l, 0 ≤ x.s ∧ x.s < 8 ∧ x.l.length < 5) :
    Calls Try.prog 17 #[.agg #[.int .i64 1, .int .u64 (cl : Int), .int .u64 (sq : Int), .int .i64 (sh : Int), .int .i64 (sg : Int), .int .u64 (ps : Int), .slice a n c]] w (StrE w (putL (cmOf 1 cl sq sh sg ps l), 0)) := by
  have hck : checkM (cmOf 1 cl sq sh sg ps l) = 0 := by unfold checkM; rw [hyes]; rfl
  have cc := fun w hh => rcheck_any w 1 sh sg cl sq ps n c a l hh
  rw [hck] at cc
  obtain ⟨G, hG⟩ : ∃ G, putL (cmOf 1 cl sq sh sg ps l) = G := ⟨_, rfl⟩
  rw [hG]
  have hg : G = [1] ++ (encU cl ++ encU sq ++ encU sh ++ encU sg) := by rw [← hG]; simp [putL, encF, cmOf]
  have hR := encRs_len (l.map rlOf) (by rw [List.length_map, h.len]; exact hn) (fun r hr => by
    obtain ⟨x, hx, rfl⟩ := List.mem_map.1 hr
    exact ⟨hrw x hx, (h.it x hx).2⟩)
  have HG := Go.Lib.hid hg; have CC := Go.Lib.hid cc; have HRW := Go.Lib.hid hrw
  clear hyes hck cc hG hg hrw
  generalize hRS : encRs (l.map rlOf) = RS at *
  have HRS := Go.Lib.hid hRS
  clear hRS
  have l1 := NB.encU_len hcl; have l2 := NB.encU_len hsq; have l5 := NB.encU_len hps
  have hs64 : sh < 18446744073709551616 := by omega
  have hg64 : sg < 18446744073709551616 := by omega
  have l3 := NB.encU_len hs64; have l4 := NB.encU_len hg64
  have hsw : IntKind.u64.wrap (sh : Int) = (sh : Int) := by rw [IntKind.wrap_u64]; omega
  have hgw : IntKind.u64.wrap (sg : Int) = (sg : Int) := by rw [IntKind.wrap_u64]; omega
  have ob := oneB w (.cells #[.int .i64 1, .int .u64 (cl : Int), .int .u64 (sq : Int), .int .i64 (sh : Int), .int .i64 (sg : Int), .int .u64 (ps : Int), .slice a n c] 33)
  have h1 := h.below ob
  have r1 := NB.rw_new w [.int .i64 1, .int .u64 (cl : Int), .int .u64 (sq : Int), .int .i64 (sh : Int), .int .i64 (sg : Int), .int .u64 (ps : Int), .slice a n c] 33 rfl
  simp only [List.toArray] at r1
  have k1 : (1 : Nat) ≤ maxLen := by unfold maxLen; omega
  go_enter Try.func17, Try.ntmps17
  go_wp2_with fail
  refine (CC.out _ h1).mono ?_
  rintro e w2 ⟨rfl, hb2⟩
  have r2 := r1.below hb2
  have h2 := h1.below hb2
  have B2 := NB.bel ob hb2 ob.size
  obtain ⟨c0, c1, c2, c3, c4, c5, c6, _⟩ := NB.rw7 r2
  clear CC r1 h1 ob hb2
  go_wp2_with (refine NB.wpList_conv_str rfl 22 9 (.tmp 15) rfl Try.underlying22 Try.underlying5 Try.underlying9 (some ⟨w2.heap.size, 0, none⟩) 1 1 [1] rfl (NB.rdB_lit (n := 1) [1] rfl rfl k1 rfl) ?_)
  have ob3 := oneB w2 (.cells #[.int .u8 1] 5)
  have r3 := (r2.below ob3).below (dB _)
  have h3 := (h2.below ob3).below (dB _)
  have B3 := (NB.bel B2 ob3 B2.size).drew
  clear r2 h2 B2 ob3 c0 c1 c2 c3 c4 c5 c6
  refine NB.wp_region_t [] (by kernel_rfl) ?_
  generalize (w2.alloc (.cells #[.int .u8 1] 5)).drew = w3 at *
  obtain ⟨c0, c1, c2, c3, c4, c5, c6, _⟩ := NB.rw7 r3
  have e1 : ¬ 9223372036854775807 < (encU cl).length + (encU sq).length := by omega
  refine NB.t_p 0 rfl (by kernel_rfl) (fun K hK => ?_); go_simp; refine hK _ ?_; clear hK K
  refine NB.t_r 1 [2, 5, 6, 7] rfl (by kernel_rfl) (by kernel_rfl) (by go_simp) _ (fun w' hw' => NB.run_op_load rfl rfl Try.underlying24 rfl c1 hw') (fun K hK => ?_); go_simp; refine hK _ ?_; clear hK K
  refine NB.t_p 3 rfl (by kernel_rfl) (fun K hK => ?_); go_simp; refine hK _ ?_; clear hK K
  refine NB.t_r 4 [5, 6, 7] rfl (by kernel_rfl) (by kernel_rfl) (by go_simp) _ (fun w' hw' => NB.run_op_load rfl rfl Try.underlying24 rfl c2 hw') (fun K hK => ?_); go_simp; refine hK _ ?_; clear hK K
  refine NB.t_e 2 rfl (by kernel_rfl) (by kernel_rfl) (fun K hK => ?_); unfold NB.tmoves; go_simp; refine (ruintR_any w3 cl hcl).mono ?_; rintro e w4 ⟨rfl, hb4⟩; refine ⟨_, rfl, hb4, hK _ _ ?_⟩; clear hK K
  refine NB.t_e 5 rfl (by kernel_rfl) (by kernel_rfl) (fun K hK => ?_); unfold NB.tmoves; go_simp; refine (ruintR_any w4 sq hsq).mono ?_; rintro e w5 ⟨rfl, hb5⟩; refine ⟨_, rfl, hb5, hK _ _ ?_⟩; clear hK K
  refine NB.t_p 6 rfl (by kernel_rfl) (fun K hK => ?_); go_simp; refine hK _ ?_; clear hK K
  refine NB.t_p 7 rfl (by kernel_rfl) (fun K hK => ?_); go_simp; refine hK _ ?_; clear hK K
  have B5 := NB.bel (NB.bel B3 hb4 B3.size) hb5 (NB.bel B3 hb4 B3.size).size
  have r5 := (r3.below hb4).below hb5
  have h5 := (h3.below hb4).below hb5
  clear c0 c1 c2 c3 c4 c5 c6 r3 h3 B3 hb4 hb5
  refine NB.t_end (by kernel_rfl) ?_
  obtain ⟨c0, c1, c2, c3, c4, c5, c6, _⟩ := NB.rw7 r5
  go_wp2_with fail
  have r8 := r5.below (dB _)
  have h8 := h5.below (dB _)
  have B8 := B5.drew
  clear c0 c1 c2 c3 c4 c5 c6 r5 h5 B5
  refine NB.wp_region_t [] (by kernel_rfl) ?_
  generalize w5.drew = w8 at *
  obtain ⟨c0, c1, c2, c3, c4, c5, c6, _⟩ := NB.rw7 r8
  have e2 : ¬ 9223372036854775807 < (encU cl).length + (encU sq).length + (encU sh).length := by omega
  have e3 : ¬ 9223372036854775807 < (encU cl).length + ((encU sq).length + (encU sh).length) + (encU sg).length := by omega
  have e4 : ¬ 9223372036854775807 < 1 + ((encU cl).length + ((encU sq).length + ((encU sh).length + (encU sg).length))) := by omega
  refine NB.t_p 0 rfl (by kernel_rfl) (fun K hK => ?_); go_simp; refine hK _ ?_; clear hK K
  refine NB.t_p 1 rfl (by kernel_rfl) (fun K hK => ?_); go_simp; refine hK _ ?_; clear hK K
  refine NB.t_p 2 rfl (by kernel_rfl) (fun K hK => ?_); go_simp; refine hK _ ?_; clear hK K
  refine NB.t_r 3 [4, 5, 6, 10, 11, 12, 13] rfl (by kernel_rfl) (by kernel_rfl) (by go_simp) _ (fun w' hw' => NB.run_op_load rfl rfl Try.underlying3 rfl c3 hw') (fun K hK => ?_); go_simp; refine hK _ ?_; clear hK K
  refine NB.t_p 4 rfl (by kernel_rfl) (fun K hK => ?_); go_simp; refine hK _ ?_; clear hK K
  refine NB.t_p 7 rfl (by kernel_rfl) (fun K hK => ?_); go_simp; refine hK _ ?_; clear hK K
  refine NB.t_r 8 [9, 10, 11, 12, 13] rfl (by kernel_rfl) (by kernel_rfl) (by go_simp) _ (fun w' hw' => NB.run_op_load rfl rfl Try.underlying3 rfl c4 hw') (fun K hK => ?_); go_simp; refine hK _ ?_; clear hK K
  refine NB.t_p 9 rfl (by kernel_rfl) (fun K hK => ?_); go_simp; refine hK _ ?_; clear hK K
  refine NB.t_e 5 rfl (by kernel_rfl) (by kernel_rfl) (fun K hK => ?_); unfold NB.tmoves; go_simp; refine (ruintR_any w8 sh hs64).mono ?_; rintro e w9 ⟨rfl, hb9⟩; refine ⟨_, rfl, hb9, hK _ _ ?_⟩; clear hK K
  refine NB.t_p 6 rfl (by kernel_rfl) (fun K hK => ?_); go_simp; refine hK _ ?_; clear hK K
  refine NB.t_e 10 rfl (by kernel_rfl) (by kernel_rfl) (fun K hK => ?_); unfold NB.tmoves; go_simp; refine (ruintR_any w9 sg hg64).mono ?_; rintro e w10 ⟨rfl, hb10⟩; refine ⟨_, rfl, hb10, hK _ _ ?_⟩; clear hK K
  refine NB.t_p 11 rfl (by kernel_rfl) (fun K hK => ?_); go_simp; refine hK _ ?_; clear hK K
  refine NB.t_p 12 rfl (by kernel_rfl) (fun K hK => ?_); go_simp; refine hK _ ?_; clear hK K
  refine NB.t_p 13 rfl (by kernel_rfl) (fun K hK => ?_); go_simp; refine hK _ ?_; clear hK K
  have BX := NB.bel (NB.bel B8 hb9 B8.size) hb10 (NB.bel B8 hb9 B8.size).size
  refine NB.t_end (by kernel_rfl) ?_
  go_wp2_with fail
  go_ret2
  exact ⟨by rw [HG.out]; simp, BX⟩

set_option maxRecDepth 100000 in
set_option maxHeartbeats 8000000 in
theorem rput_k2 (w : World) (sh sg cl sq ps n c : Nat) (a : Option Addr) (l : List Iw) (h : RdW w a n c l) (hyes : checkB (cmOf 2 cl sq sh sg ps l) = true)
    (hcl : cl < 18446744073709551616) (hsq : sq < 18446744073709551616) (hsh : sh < 8) (hsg : sg < 5) (hps : ps < 18446744073709551616) (hn : n ≤ 100) (hrw : ∀ x ∈ l, 0 ≤ x.s ∧ x.s < 8 ∧ x.l.length < 5) :
    Calls Try.prog 17 #[.agg #[.int .i64 2, .int .u64 (cl : Int), .int .u64 (sq : Int), .int .i64 (sh : Int), .int .i64 (sg : Int), .int .u64 (ps : Int), .slice a n c]] w (StrE w (putL (cmOf 2 cl sq sh sg ps l), 0)) := by
  have hck : checkM (cmOf 2 cl sq sh sg ps l) = 0 := by unfold checkM; rw [hyes]; rfl
  have cc := fun w hh => rcheck_any w 2 sh sg cl sq ps n c a l hh
  rw [hck] at cc
  obtain ⟨G, hG⟩ : ∃ G, putL (cmOf 2 cl sq sh sg ps l) = G := ⟨_, rfl⟩
  rw [hG]
  have hg : G = [2] ++ (encU cl ++ encU sq ++ encU sh ++ encRs (l.map rlOf)) := by rw [← hG]; simp [putL, encF, cmOf]
  have hR := encRs_len (l.map rlOf) (by rw [List.length_map, h.len]; exact hn) (fun r hr => by
    obtain ⟨x, hx, rfl⟩ := List.mem_map.1 hr
    exact ⟨hrw x hx, (h.it x hx).2⟩)
  have HG := Go.Lib.hid hg; have CC := Go.Lib.hid cc; have HRW := Go.Lib.hid hrw
  clear hyes hck cc hG hg hrw
  generalize hRS : encRs (l.map rlOf) = RS at *
  have HRS := Go.Lib.hid hRS
  clear hRS
  have l1 := NB.encU_len hcl; have l2 := NB.encU_len hsq; have l5 := NB.encU_len hps
  have hs64 : sh < 18446744073709551616 := by omega
  have hg64 : sg < 18446744073709551616 := by omega
  have l3 := NB.encU_len hs64; have l4 := NB.encU_len hg64
  have hsw : IntKind.u64.wrap (sh : Int) = (sh : Int) := by rw [IntKind.wrap_u64]; omega
  have hgw : IntKind.u64.wrap (sg : Int) = (sg : Int) := by rw [IntKind.wrap_u64]; omega
  have ob := oneB w (.cells #[.int .i64 2, .int .u64 (cl : Int), .int .u64 (sq : Int), .int .i64 (sh : Int), .int .i64 (sg : Int), .int .u64 (ps : Int), .slice a n c] 33)
  have h1 := h.below ob
  have r1 := NB.rw_new w [.int .i64 2, .int .u64 (cl : Int), .int .u64 (sq : Int), .int .i64 (sh : Int), .int .i64 (sg : Int), .int .u64 (ps : Int), .slice a n c] 33 rfl
  simp only [List.toArray] at r1
  have k1 : (1 : Nat) ≤ maxLen := by unfold maxLen; omega
  go_enter Try.func17, Try.ntmps17
  go_wp2_with fail
  refine (CC.out _ h1).mono ?_
  rintro e w2 ⟨rfl, hb2⟩
  have r2 := r1.below hb2
  have h2 := h1.below hb2
  have B2 := NB.bel ob hb2 ob.size
  obtain ⟨c0, c1, c2, c3, c4, c5, c6, _⟩ := NB.rw7 r2
  clear CC r1 h1 ob hb2
  go_wp2_with (refine NB.wpList_conv_str rfl 22 9 (.tmp 15) rfl Try.underlying22 Try.underlying5 Try.underlying9 (some ⟨w2.heap.size, 0, none⟩) 1 1 [2] rfl (NB.rdB_lit (n := 1) [2] rfl rfl k1 rfl) ?_)
  have ob3 := oneB w2 (.cells #[.int .u8 2] 5)
  have r3 := (r2.below ob3).below (dB _)
  have h3 := (h2.below ob3).below (dB _)
  have B3 := (NB.bel B2 ob3 B2.size).drew
  clear r2 h2 B2 ob3 c0 c1 c2 c3 c4 c5 c6
  refine NB.wp_region_t [] (by kernel_rfl) ?_
  generalize (w2.alloc (.cells #[.int .u8 2] 5)).drew = w3 at *
  obtain ⟨c0, c1, c2, c3, c4, c5, c6, _⟩ := NB.rw7 r3
  have e1 : ¬ 9223372036854775807 < (encU cl).length + (encU sq).length := by omega
  refine NB.t_p 0 rfl (by kernel_rfl) (fun K hK => ?_); go_simp; refine hK _ ?_; clear hK K
  refine NB.t_r 1 [2, 5, 6, 7] rfl (by kernel_rfl) (by kernel_rfl) (by go_simp) _ (fun w' hw' => NB.run_op_load rfl rfl Try.underlying24 rfl c1 hw') (fun K hK => ?_); go_simp; refine hK _ ?_; clear hK K
  refine NB.t_p 3 rfl (by kernel_rfl) (fun K hK => ?_); go_simp; refine hK _ ?_; clear hK K
  refine NB.t_r 4 [5, 6, 7] rfl (by kernel_rfl) (by kernel_rfl) (by go_simp) _ (fun w' hw' => NB.run_op_load rfl rfl Try.underlying24 rfl c2 hw') (fun K hK => ?_); go_simp; refine hK _ ?_; clear hK K
  refine NB.t_e 2 rfl (by kernel_rfl) (by kernel_rfl) (fun K hK => ?_); unfold NB.tmoves; go_simp; refine (ruintR_any w3 cl hcl).mono ?_; rintro e w4 ⟨rfl, hb4⟩; refine ⟨_, rfl, hb4, hK _ _ ?_⟩; clear hK K
  refine NB.t_e 5 rfl (by kernel_rfl) (by kernel_rfl) (fun K hK => ?_); unfold NB.tmoves; go_simp; refine (ruintR_any w4 sq hsq).mono ?_; rintro e w5 ⟨rfl, hb5⟩; refine ⟨_, rfl, hb5, hK _ _ ?_⟩; clear hK K
  refine NB.t_p 6 rfl (by kernel_rfl) (fun K hK => ?_); go_simp; refine hK _ ?_; clear hK K
  refine NB.t_p 7 rfl (by kernel_rfl) (fun K hK => ?_); go_simp; refine hK _ ?_; clear hK K
  have B5 := NB.bel (NB.bel B3 hb4 B3.size) hb5 (NB.bel B3 hb4 B3.size).size
  have r5 := (r3.below hb4).below hb5
  have h5 := (h3.below hb4).below hb5
  clear c0 c1 c2 c3 c4 c5 c6 r3 h3 B3 hb4 hb5
  refine NB.t_end (by kernel_rfl) ?_
  obtain ⟨c0, c1, c2, c3, c4, c5, c6, _⟩ := NB.rw7 r5
  go_wp2_with fail
  have r8 := r5.below (dB _)
  have h8 := h5.below (dB _)
  have B8 := B5.drew
  clear c0 c1 c2 c3 c4 c5 c6 r5 h5 B5
  refine NB.wp_region_t [] (by kernel_rfl) ?_
  generalize w5.drew = w8 at *
  obtain ⟨c0, c1, c2, c3, c4, c5, c6, _⟩ := NB.rw7 r8
  have e2 : ¬ 9223372036854775807 < (encU cl).length + (encU sq).length + (encU sh).length := by omega
  have e3 : ¬ 9223372036854775807 < (encU cl).length + ((encU sq).length + (encU sh).length) + RS.length := by omega
  have e4 : ¬ 9223372036854775807 < 1 + ((encU cl).length + ((encU sq).length + ((encU sh).length + RS.length))) := by omega
  refine NB.t_p 0 rfl (by kernel_rfl) (fun K hK => ?_); go_simp; refine hK _ ?_; clear hK K
  refine NB.t_p 1 rfl (by kernel_rfl) (fun K hK => ?_); go_simp; refine hK _ ?_; clear hK K
  refine NB.t_p 2 rfl (by kernel_rfl) (fun K hK => ?_); go_simp; refine hK _ ?_; clear hK K
  refine NB.t_r 3 [4, 5, 6, 9, 10, 11, 12] rfl (by kernel_rfl) (by kernel_rfl) (by go_simp) _ (fun w' hw' => NB.run_op_load rfl rfl Try.underlying3 rfl c3 hw') (fun K hK => ?_); go_simp; refine hK _ ?_; clear hK K
  refine NB.t_p 4 rfl (by kernel_rfl) (fun K hK => ?_); go_simp; refine hK _ ?_; clear hK K
  refine NB.t_p 7 rfl (by kernel_rfl) (fun K hK => ?_); go_simp; refine hK _ ?_; clear hK K
  refine NB.t_r 8 [9, 10, 11, 12] rfl (by kernel_rfl) (by kernel_rfl) (by go_simp) _ (fun w' hw' => NB.run_op_load rfl rfl Try.underlying31 rfl c6 hw') (fun K hK => ?_); go_simp; refine hK _ ?_; clear hK K
  refine NB.t_e 5 rfl (by kernel_rfl) (by kernel_rfl) (fun K hK => ?_); unfold NB.tmoves; go_simp; refine (ruintR_any w8 sh hs64).mono ?_; rintro e w9 ⟨rfl, hb9⟩; refine ⟨_, rfl, hb9, hK _ _ ?_⟩; clear hK K
  refine NB.t_p 6 rfl (by kernel_rfl) (fun K hK => ?_); go_simp; refine hK _ ?_; clear hK K
  refine NB.t_e 9 rfl (by kernel_rfl) (by kernel_rfl) (fun K hK => ?_); unfold NB.tmoves; go_simp; have hq := rrput_any w9 n c a l (h8.below hb9) hn HRW.out; rw [HRS.out] at hq; refine hq.mono ?_; rintro e w10 ⟨rfl, hb10⟩; refine ⟨_, rfl, hb10, hK _ _ ?_⟩; clear hK K
  refine NB.t_p 10 rfl (by kernel_rfl) (fun K hK => ?_); go_simp; refine hK _ ?_; clear hK K
  refine NB.t_p 11 rfl (by kernel_rfl) (fun K hK => ?_); go_simp; refine hK _ ?_; clear hK K
  refine NB.t_p 12 rfl (by kernel_rfl) (fun K hK => ?_); go_simp; refine hK _ ?_; clear hK K
  have BX := NB.bel (NB.bel B8 hb9 B8.size) hb10 (NB.bel B8 hb9 B8.size).size
  refine NB.t_end (by kernel_rfl) ?_
  go_wp2_with fail
  go_ret2
  exact ⟨by rw [HG.out]; simp, BX⟩

set_option maxRecDepth 100000 in
set_option maxHeartbeats 8000000 in
theorem rput_k3 (w : World) (sh sg cl sq ps n c : Nat) (a : Option Addr) (l : List Iw) (h : RdW w a n c l) (hyes : checkB (cmOf 3 cl sq sh sg ps l) = true)
    (hcl : cl < 18446744073709551616) (hsq : sq < 18446744073709551616) (hsh : sh < 8) (hsg : sg < 5) (hps : ps < 18446744073709551616) (hn : n ≤ 100) (hrw : ∀ x ∈ l, 0 ≤ x.s ∧ x.s < 8 ∧ x.l.length < 5) :
    Calls Try.prog 17 #[.agg #[.int .i64 3, .int .u64 (cl : Int), .int .u64 (sq : Int), .int .i64 (sh : Int), .int .i64 (sg : Int), .int .u64 (ps : Int), .slice a n c]] w (StrE w (putL (cmOf 3 cl sq sh sg ps l), 0)) := by
  have hck : checkM (cmOf 3 cl sq sh sg ps l) = 0 := by unfold checkM; rw [hyes]; rfl
  have cc := fun w hh => rcheck_any w 3 sh sg cl sq ps n c a l hh
  rw [hck] at cc
  obtain ⟨G, hG⟩ : ∃ G, putL (cmOf 3 cl sq sh sg ps l) = G := ⟨_, rfl⟩
  rw [hG]
  have hg : G = [3] ++ (encU cl ++ encU sq ++ encU ps) := by rw [← hG]; simp [putL, encF, cmOf]
  have hR := encRs_len (l.map rlOf) (by rw [List.length_map, h.len]; exact hn) (fun r hr => by
    obtain ⟨x, hx, rfl⟩ := List.mem_map.1 hr
    exact ⟨hrw x hx, (h.it x hx).2⟩)
  have HG := Go.Lib.hid hg; have CC := Go.Lib.hid cc; have HRW := Go.Lib.hid hrw
  clear hyes hck cc hG hg hrw
  generalize hRS : encRs (l.map rlOf) = RS at *
  have HRS := Go.Lib.hid hRS
  clear hRS
  have l1 := NB.encU_len hcl; have l2 := NB.encU_len hsq; have l5 := NB.encU_len hps
  have hs64 : sh < 18446744073709551616 := by omega
  have hg64 : sg < 18446744073709551616 := by omega
  have l3 := NB.encU_len hs64; have l4 := NB.encU_len hg64
  have hsw : IntKind.u64.wrap (sh : Int) = (sh : Int) := by rw [IntKind.wrap_u64]; omega
  have hgw : IntKind.u64.wrap (sg : Int) = (sg : Int) := by rw [IntKind.wrap_u64]; omega
  have ob := oneB w (.cells #[.int .i64 3, .int .u64 (cl : Int), .int .u64 (sq : Int), .int .i64 (sh : Int), .int .i64 (sg : Int), .int .u64 (ps : Int), .slice a n c] 33)
  have h1 := h.below ob
  have r1 := NB.rw_new w [.int .i64 3, .int .u64 (cl : Int), .int .u64 (sq : Int), .int .i64 (sh : Int), .int .i64 (sg : Int), .int .u64 (ps : Int), .slice a n c] 33 rfl
  simp only [List.toArray] at r1
  have k1 : (1 : Nat) ≤ maxLen := by unfold maxLen; omega
  go_enter Try.func17, Try.ntmps17
  go_wp2_with fail
  refine (CC.out _ h1).mono ?_
  rintro e w2 ⟨rfl, hb2⟩
  have r2 := r1.below hb2
  have h2 := h1.below hb2
  have B2 := NB.bel ob hb2 ob.size
  obtain ⟨c0, c1, c2, c3, c4, c5, c6, _⟩ := NB.rw7 r2
  clear CC r1 h1 ob hb2
  go_wp2_with (refine NB.wpList_conv_str rfl 22 9 (.tmp 15) rfl Try.underlying22 Try.underlying5 Try.underlying9 (some ⟨w2.heap.size, 0, none⟩) 1 1 [3] rfl (NB.rdB_lit (n := 1) [3] rfl rfl k1 rfl) ?_)
  have ob3 := oneB w2 (.cells #[.int .u8 3] 5)
  have r3 := (r2.below ob3).below (dB _)
  have h3 := (h2.below ob3).below (dB _)
  have B3 := (NB.bel B2 ob3 B2.size).drew
  clear r2 h2 B2 ob3 c0 c1 c2 c3 c4 c5 c6
  refine NB.wp_region_t [] (by kernel_rfl) ?_
  generalize (w2.alloc (.cells #[.int .u8 3] 5)).drew = w3 at *
  obtain ⟨c0, c1, c2, c3, c4, c5, c6, _⟩ := NB.rw7 r3
  have e1 : ¬ 9223372036854775807 < (encU cl).length + (encU sq).length := by omega
  refine NB.t_p 0 rfl (by kernel_rfl) (fun K hK => ?_); go_simp; refine hK _ ?_; clear hK K
  refine NB.t_r 1 [2, 5, 6, 7] rfl (by kernel_rfl) (by kernel_rfl) (by go_simp) _ (fun w' hw' => NB.run_op_load rfl rfl Try.underlying24 rfl c1 hw') (fun K hK => ?_); go_simp; refine hK _ ?_; clear hK K
  refine NB.t_p 3 rfl (by kernel_rfl) (fun K hK => ?_); go_simp; refine hK _ ?_; clear hK K
  refine NB.t_r 4 [5, 6, 7] rfl (by kernel_rfl) (by kernel_rfl) (by go_simp) _ (fun w' hw' => NB.run_op_load rfl rfl Try.underlying24 rfl c2 hw') (fun K hK => ?_); go_simp; refine hK _ ?_; clear hK K
  refine NB.t_e 2 rfl (by kernel_rfl) (by kernel_rfl) (fun K hK => ?_); unfold NB.tmoves; go_simp; refine (ruintR_any w3 cl hcl).mono ?_; rintro e w4 ⟨rfl, hb4⟩; refine ⟨_, rfl, hb4, hK _ _ ?_⟩; clear hK K
  refine NB.t_e 5 rfl (by kernel_rfl) (by kernel_rfl) (fun K hK => ?_); unfold NB.tmoves; go_simp; refine (ruintR_any w4 sq hsq).mono ?_; rintro e w5 ⟨rfl, hb5⟩; refine ⟨_, rfl, hb5, hK _ _ ?_⟩; clear hK K
  refine NB.t_p 6 rfl (by kernel_rfl) (fun K hK => ?_); go_simp; refine hK _ ?_; clear hK K
  refine NB.t_p 7 rfl (by kernel_rfl) (fun K hK => ?_); go_simp; refine hK _ ?_; clear hK K
  have B5 := NB.bel (NB.bel B3 hb4 B3.size) hb5 (NB.bel B3 hb4 B3.size).size
  have r5 := (r3.below hb4).below hb5
  have h5 := (h3.below hb4).below hb5
  clear c0 c1 c2 c3 c4 c5 c6 r3 h3 B3 hb4 hb5
  refine NB.t_end (by kernel_rfl) ?_
  obtain ⟨c0, c1, c2, c3, c4, c5, c6, _⟩ := NB.rw7 r5
  have e3 : ¬ 9223372036854775807 < (encU cl).length + (encU sq).length + (encU ps).length := by omega
  have e4 : ¬ 9223372036854775807 < 1 + ((encU cl).length + ((encU sq).length + (encU ps).length)) := by omega
  go_wp2_with (go_at_call 38; refine (ruintR_any _ ps hps).mono ?_; rintro e w8 ⟨rfl, hb8⟩)
  have BX := NB.bel B5 hb8 B5.size
  go_ret2
  exact ⟨by rw [HG.out]; simp, BX⟩

set_option maxRecDepth 100000 in
set_option maxHeartbeats 8000000 in
theorem rput_k4 (w : World) (sh sg cl sq ps n c : Nat) (a : Option Addr) (l : List Iw) (h : RdW w a n c l) (hyes : checkB (cmOf 4 cl sq sh sg ps l) = true)
    (hcl : cl < 18446744073709551616) (hsq : sq < 18446744073709551616) (hsh : sh < 8) (hsg : sg < 5) (hps : ps < 18446744073709551616) (hn : n ≤ 100) (hrw : ∀ x ∈ l, 0 ≤ x.s ∧ x.s < 8 ∧ x.l.length < 5) :
    Calls Try.prog 17 #[.agg #[.int .i64 4, .int .u64 (cl : Int), .int .u64 (sq : Int), .int .i64 (sh : Int), .int .i64 (sg : Int), .int .u64 (ps : Int), .slice a n c]] w (StrE w (putL (cmOf 4 cl sq sh sg ps l), 0)) := by
  have hck : checkM (cmOf 4 cl sq sh sg ps l) = 0 := by unfold checkM; rw [hyes]; rfl
  have cc := fun w hh => rcheck_any w 4 sh sg cl sq ps n c a l hh
  rw [hck] at cc
  obtain ⟨G, hG⟩ : ∃ G, putL (cmOf 4 cl sq sh sg ps l) = G := ⟨_, rfl⟩
  rw [hG]
  have hg : G = [4] ++ encRs (l.map rlOf) := by rw [← hG]; simp [putL, encF, cmOf]
  have hR := encRs_len (l.map rlOf) (by rw [List.length_map, h.len]; exact hn) (fun r hr => by
    obtain ⟨x, hx, rfl⟩ := List.mem_map.1 hr
    exact ⟨hrw x hx, (h.it x hx).2⟩)
  have HG := Go.Lib.hid hg; have CC := Go.Lib.hid cc; have HRW := Go.Lib.hid hrw
  clear hyes hck cc hG hg hrw
  generalize hRS : encRs (l.map rlOf) = RS at *
  have HRS := Go.Lib.hid hRS
  clear hRS
  have l1 := NB.encU_len hcl; have l2 := NB.encU_len hsq; have l5 := NB.encU_len hps
  have hs64 : sh < 18446744073709551616 := by omega
  have hg64 : sg < 18446744073709551616 := by omega
  have l3 := NB.encU_len hs64; have l4 := NB.encU_len hg64
  have hsw : IntKind.u64.wrap (sh : Int) = (sh : Int) := by rw [IntKind.wrap_u64]; omega
  have hgw : IntKind.u64.wrap (sg : Int) = (sg : Int) := by rw [IntKind.wrap_u64]; omega
  have ob := oneB w (.cells #[.int .i64 4, .int .u64 (cl : Int), .int .u64 (sq : Int), .int .i64 (sh : Int), .int .i64 (sg : Int), .int .u64 (ps : Int), .slice a n c] 33)
  have h1 := h.below ob
  have r1 := NB.rw_new w [.int .i64 4, .int .u64 (cl : Int), .int .u64 (sq : Int), .int .i64 (sh : Int), .int .i64 (sg : Int), .int .u64 (ps : Int), .slice a n c] 33 rfl
  simp only [List.toArray] at r1
  have k1 : (1 : Nat) ≤ maxLen := by unfold maxLen; omega
  go_enter Try.func17, Try.ntmps17
  go_wp2_with fail
  refine (CC.out _ h1).mono ?_
  rintro e w2 ⟨rfl, hb2⟩
  have r2 := r1.below hb2
  have h2 := h1.below hb2
  have B2 := NB.bel ob hb2 ob.size
  obtain ⟨c0, c1, c2, c3, c4, c5, c6, _⟩ := NB.rw7 r2
  clear CC r1 h1 ob hb2
  go_wp2_with (refine NB.wpList_conv_str rfl 22 9 (.tmp 15) rfl Try.underlying22 Try.underlying5 Try.underlying9 (some ⟨w2.heap.size, 0, none⟩) 1 1 [4] rfl (NB.rdB_lit (n := 1) [4] rfl rfl k1 rfl) ?_)
  have ob3 := oneB w2 (.cells #[.int .u8 4] 5)
  have r3 := (r2.below ob3).below (dB _)
  have h3 := (h2.below ob3).below (dB _)
  have B3 := (NB.bel B2 ob3 B2.size).drew
  clear r2 h2 B2 ob3 c0 c1 c2 c3 c4 c5 c6
  refine NB.wp_region_t [] (by kernel_rfl) ?_
  generalize (w2.alloc (.cells #[.int .u8 4] 5)).drew = w3 at *
  obtain ⟨c0, c1, c2, c3, c4, c5, c6, _⟩ := NB.rw7 r3
  have e1 : ¬ 9223372036854775807 < (encU cl).length + (encU sq).length := by omega
  refine NB.t_p 0 rfl (by kernel_rfl) (fun K hK => ?_); go_simp; refine hK _ ?_; clear hK K
  refine NB.t_r 1 [2, 5, 6, 7] rfl (by kernel_rfl) (by kernel_rfl) (by go_simp) _ (fun w' hw' => NB.run_op_load rfl rfl Try.underlying24 rfl c1 hw') (fun K hK => ?_); go_simp; refine hK _ ?_; clear hK K
  refine NB.t_p 3 rfl (by kernel_rfl) (fun K hK => ?_); go_simp; refine hK _ ?_; clear hK K
  refine NB.t_r 4 [5, 6, 7] rfl (by kernel_rfl) (by kernel_rfl) (by go_simp) _ (fun w' hw' => NB.run_op_load rfl rfl Try.underlying24 rfl c2 hw') (fun K hK => ?_); go_simp; refine hK _ ?_; clear hK K
  refine NB.t_e 2 rfl (by kernel_rfl) (by kernel_rfl) (fun K hK => ?_); unfold NB.tmoves; go_simp; refine (ruintR_any w3 cl hcl).mono ?_; rintro e w4 ⟨rfl, hb4⟩; refine ⟨_, rfl, hb4, hK _ _ ?_⟩; clear hK K
  refine NB.t_e 5 rfl (by kernel_rfl) (by kernel_rfl) (fun K hK => ?_); unfold NB.tmoves; go_simp; refine (ruintR_any w4 sq hsq).mono ?_; rintro e w5 ⟨rfl, hb5⟩; refine ⟨_, rfl, hb5, hK _ _ ?_⟩; clear hK K
  refine NB.t_p 6 rfl (by kernel_rfl) (fun K hK => ?_); go_simp; refine hK _ ?_; clear hK K
  refine NB.t_p 7 rfl (by kernel_rfl) (fun K hK => ?_); go_simp; refine hK _ ?_; clear hK K
  have B5 := NB.bel (NB.bel B3 hb4 B3.size) hb5 (NB.bel B3 hb4 B3.size).size
  have r5 := (r3.below hb4).below hb5
  have h5 := (h3.below hb4).below hb5
  clear c0 c1 c2 c3 c4 c5 c6 r3 h3 B3 hb4 hb5
  refine NB.t_end (by kernel_rfl) ?_
  obtain ⟨c0, c1, c2, c3, c4, c5, c6, _⟩ := NB.rw7 r5
  have e4 : ¬ 9223372036854775807 < 1 + RS.length := by omega
  have cr := rrput_any w5 n c a l h5 hn HRW.out
  rw [HRS.out] at cr
  go_wp2_with (go_at_call 39; refine cr.mono ?_; rintro e w8 ⟨rfl, hb8⟩)
  have BX := NB.bel B5 hb8 B5.size
  go_ret2
  exact ⟨by rw [HG.out]; simp, BX⟩

theorem rput_any (w : World) (op sh sg : Int) (cl sq ps n c : Nat) (a : Option Addr) (l : List Iw) (h : RdW w a n c l) (hcl : cl < 18446744073709551616) (hsq : sq < 18446744073709551616) (hps : ps < 18446744073709551616) :
    Calls Try.prog 17 #[.agg #[.int .i64 op, .int .u64 (cl : Int), .int .u64 (sq : Int), .int .i64 sh, .int .i64 sg, .int .u64 (ps : Int), .slice a n c]] w
      (StrE w (putM (cmOf op cl sq sh sg ps l))) := by
  cases hk : checkB (cmOf op cl sq sh sg ps l) with
  | false =>
    have hq : putM (cmOf op cl sq sh sg ps l) = ([], 1) := by unfold putM; rw [hk]; rfl
    rw [hq]
    exact rput_no w op sh sg cl sq ps n c a l h hk
  | true =>
    have hq : putM (cmOf op cl sq sh sg ps l) = (putL (cmOf op cl sq sh sg ps l), 0) := by unfold putM; rw [hk]; rfl
    rw [hq]
    obtain ⟨⟨h1, h2⟩, ⟨h3, h4⟩, h5, h6⟩ := check_rng hk
    have hro : rowsOk (-1) (l.map rlOf) = true := by
      have h9 := hk
      simp only [checkB, Bool.and_eq_true] at h9
      exact h9.1
    have hall := rowsOk_all (-1) _ (by omega) (by omega) hro
    have hn : n ≤ 100 := by
      have h9 := hall.1
      rw [List.length_map, h.len] at h9
      omega
    have hrw : ∀ x ∈ l, 0 ≤ x.s ∧ x.s < 8 ∧ x.l.length < 5 := fun x hx => by
      obtain ⟨⟨q1, q2⟩, q3⟩ := hall.2 (rlOf x) (List.mem_map.2 ⟨x, hx, rfl⟩)
      exact ⟨q1, q2, q3⟩
    obtain ⟨sh, rfl⟩ := Int.eq_ofNat_of_zero_le h3
    obtain ⟨sg, rfl⟩ := Int.eq_ofNat_of_zero_le h5
    have h9 : op = 0 ∨ op = 1 ∨ op = 2 ∨ op = 3 ∨ op = 4 := by omega
    rcases h9 with rfl | rfl | rfl | rfl | rfl
    · exact rput_k0 w sh sg cl sq ps n c a l h hk hcl hsq (by omega) (by omega) hps hn hrw
    · exact rput_k1 w sh sg cl sq ps n c a l h hk hcl hsq (by omega) (by omega) hps hn hrw
    · exact rput_k2 w sh sg cl sq ps n c a l h hk hcl hsq (by omega) (by omega) hps hn hrw
    · exact rput_k3 w sh sg cl sq ps n c a l h hk hcl hsq (by omega) (by omega) hps hn hrw
    · exact rput_k4 w sh sg cl sq ps n c a l h hk hcl hsq (by omega) (by omega) hps hn hrw
end Go.Proofs.Ytnkmlopgfgdajaa
