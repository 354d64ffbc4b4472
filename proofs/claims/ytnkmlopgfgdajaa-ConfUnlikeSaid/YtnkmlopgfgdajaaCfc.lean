/- The function Check of conf, and what it calls. -/
import Derived.Test.YtnkmlopgfgdajaaCfb
import Derived.Test.YtnkmlopgfgdajaaTail
namespace Go.Proofs.Ytnkmlopgfgdajaa
open Go.RowKit
open Go.NB (Rd RdU oneB dB Rw)

theorem chk1_any (w : World) (s : Int) (a : Option Addr) (n c g : Nat) (sh : Int) (hc : w.cell? ⟨g, 3, none⟩ = some (.int .i64 sh)) :
    Calls Try.prog 43 #[.agg #[.int .i64 s, .slice a n c], .pointer (some ⟨g, 0, none⟩)] w fun e w' => e = .returned (.bool (s != sh)) ∧ Below w.heap.size w w' := by
  have ob := oneB w (.cells #[.int .i64 s, .slice a n c] 50)
  have h1 := (ob.cell (p := ⟨g, 3, none⟩) (World.block_lt_of_cell? w _ hc)).trans hc
  go_enter Try.func43, Try.ntmps43
  go_wp2
  go_ret
  exact ⟨rfl, ob⟩

/-- Is one of another shard? -/
def anyNe (l : List Iw) (sh : Int) : Bool := l.any fun x => x.s != sh
def IdxE (w : World) (l : List Iw) (sh : Int) (e : Ending) (w' : World) : Prop := ∃ r : Int, e = .returned (.int .i64 r) ∧ decide (0 ≤ r) = anyNe l sh ∧ Below w.heap.size w w'

theorem anyNe_drop (l : List Iw) (sh : Int) (k : Nat) (x : Iw) (hx : l[k]? = some x) : anyNe (l.drop k) sh = ((x.s != sh) || anyNe (l.drop (k + 1)) sh) := by
  rw [drop_at hx]; rfl

set_option maxHeartbeats 1000000 in
theorem idx_any (w : World) (a : Option Addr) (n c : Nat) (l : List Iw) (g : Nat) (sh : Int) (h : RdW w a n c l) (hc : w.cell? ⟨g, 3, none⟩ = some (.int .i64 sh)) :
    Calls Try.prog 54 #[.slice a n c, .func (.func 43) #[] #[.pointer (some ⟨g, 0, none⟩)]] w (IdxE w l sh) := by
  have hbd := Rd.bound h.rd
  have HLN := Go.Lib.hid h.len
  go_enter Try.func54, Try.ntmps54
  go_wp2_with fail
  go_loopw [8] (fun x wr => ∃ k : Nat, k ≤ n ∧ x = .int .i64 (k : Int) ∧ anyNe l sh = anyNe (l.drop k) sh ∧ Below w.heap.size w wr) (fun x _ => n - (intOf x).toNat)
  case atStart => exact ⟨0, by omega, rfl, rfl, Below.refl _ _⟩
  case round =>
    obtain ⟨k, hk, rfl, hq, B⟩ := hrel
    by_cases hlt : k < n
    case neg =>
      have hki : ¬ (k : Int) < (n : Int) := by omega
      rw [List.drop_of_length_le (by have := HLN.out; omega)] at hq
      have HQ := Go.Lib.hid hq
      clear hq
      go_wp2_with fail
      go_ret
      exact ⟨-1, rfl, by rw [HQ.out]; rfl, B⟩
    have hki : (k : Int) < (n : Int) := by omega
    obtain ⟨b, o, x, rfl, hx, c0, c1, rx⟩ := (h.below B).at k hlt
    rw [anyNe_drop l sh k x hx] at hq
    have HQ := Go.Lib.hid hq
    have hc1 := (B.cell (p := ⟨g, 3, none⟩) (World.block_lt_of_cell? w _ hc)).trans hc
    clear hq hx rx
    by_cases hs : x.s = sh
    · have hs1 : (x.s != sh) = false := by simpa using hs
      clear hs
      go_wp2_with (go_at_call 43; refine (chk1_any _ _ _ _ _ g sh hc1).mono ?_; rw [hs1]; rintro e w2 ⟨rfl, hb2⟩)
      have B2 := NB.bel B hb2 B.size
      go_roundw
      case rel => exact ⟨k + 1, by omega, by go_num, by rw [HQ.out, hs1, Bool.false_or], B2⟩
      case measure => simp [intOf]; omega
    · have hs1 : (x.s != sh) = true := by simpa using hs
      clear hs
      go_wp2_with (go_at_call 43; refine (chk1_any _ _ _ _ _ g sh hc1).mono ?_; rw [hs1]; rintro e w2 ⟨rfl, hb2⟩)
      have B2 := NB.bel B hb2 B.size
      go_ret
      exact ⟨k, rfl, by rw [HQ.out, hs1, Bool.true_or]; simp, B2⟩

theorem contains_any (w : World) (a : Option Addr) (n c : Nat) (l : List Iw) (g : Nat) (sh : Int) (h : RdW w a n c l) (hc : w.cell? ⟨g, 3, none⟩ = some (.int .i64 sh)) :
    Calls Try.prog 42 #[.slice a n c, .func (.func 43) #[] #[.pointer (some ⟨g, 0, none⟩)]] w fun e w' => e = .returned (.bool (anyNe l sh)) ∧ Below w.heap.size w w' := by
  go_enter Try.func42, Try.ntmps42
  go_wp2_with (go_at_call 54; refine (idx_any _ a n c l g sh h hc).mono ?_; rintro e w2 ⟨r, rfl, hr, hb2⟩; have HR := Go.Lib.hid hr; clear hr)
  go_ret
  exact ⟨by rw [← HR.out]; rfl, hb2⟩

theorem check_op {c : Cm} (h : checkB c = true) : 0 ≤ c.op ∧ c.op ≤ 4 := by
  simp only [checkB, opOk, Bool.and_eq_true] at h
  have h := h.2
  split at h
  · omega
  split at h
  · omega
  split at h
  · omega
  split at h
  · omega
  split at h
  · omega
  · cases h
def cmOf (op : Int) (cl sq : Nat) (sh sg : Int) (ps : Nat) (l : List Iw) : Cm := ⟨op, cl, sq, sh, sg, ps, l.map rlOf⟩
/-- What the op itself asks for besides. -/
def moreB (k : Nat) (sh sg : Int) (l : List Iw) : Bool :=
  match k with
  | 1 => decide (1 ≤ sg) && decide (sg ≤ 4)
  | 2 => !anyNe l sh
  | _ => true
theorem rows_one {l : List Iw} {sh : Int} (h : rowsOk (-1) (l.map rlOf) = true) : (!anyNe l sh) = decide ((l.map rlOf).length = 0 ∨ (l.map rlOf).length = 1 ∧ (((l.map rlOf).map (·.s)).getD 0 0 = sh)) := by
  match l, h with
  | [], _ => rfl
  | [x], _ => by_cases hx : x.s = sh <;> simp [anyNe, hx, rlOf]
  | x :: y :: l, h =>
    simp only [List.map_cons, rowsOk, rowOk, Bool.and_eq_true, decide_eq_true_eq] at h
    have hlt : x.s < y.s := h.2.1.1.1.1
    by_cases hx : x.s = sh
    · have : y.s ≠ sh := by omega
      simp [anyNe, hx, this]
    · simp [anyNe, hx]
theorem check_is (k : Nat) (hk : k ≤ 4) (cl sq : Nat) (sh sg : Int) (ps n : Nat) (l : List Iw) (hn : l.length = n) :
    checkB (cmOf (k : Int) cl sq sh sg ps l) = (fitsB k cl sq sh sg ps n && (decide (0 ≤ sh) && (decide (sh < 8) && (rowsOk (-1) (l.map rlOf) && moreB k sh sg l)))) := by
  have h5 : k = 0 ∨ k = 1 ∨ k = 2 ∨ k = 3 ∨ k = 4 := by omega
  cases hr : rowsOk (-1) (l.map rlOf) with
  | false => simp [checkB, cmOf, hr]
  | true =>
    have hn' : (l.map rlOf).length = n := by rw [List.length_map, hn]
    have h1 := rows_one (sh := sh) hr
    rcases h5 with rfl | rfl | rfl | rfl | rfl
    · simp only [checkB, cmOf, hr, opOk, fitsB, moreB, hn', Bool.true_and, Bool.and_true]
      rw [Bool.eq_iff_iff]
      simp
      omega
    · simp only [checkB, cmOf, hr, opOk, fitsB, moreB, hn', Bool.true_and, Bool.and_true]
      rw [Bool.eq_iff_iff]
      simp
      omega
    · have e : opOk (cmOf ((2 : Nat) : Int) cl sq sh sg ps l) = decide (0 ≤ sh ∧ sh < 8 ∧ sg = 0 ∧ ps = 0 ∧ ((l.map rlOf).length = 0 ∨ (l.map rlOf).length = 1 ∧ (((l.map rlOf).map (·.s)).getD 0 0 = sh))) := rfl
      have e2 : checkB (cmOf ((2 : Nat) : Int) cl sq sh sg ps l) = opOk (cmOf ((2 : Nat) : Int) cl sq sh sg ps l) := by unfold checkB; rw [show (cmOf ((2 : Nat) : Int) cl sq sh sg ps l).rows = l.map rlOf from rfl, hr, Bool.true_and]
      rw [e2, e]
      simp only [fitsB, moreB, h1, Bool.true_and]
      rw [Bool.eq_iff_iff]
      simp only [Bool.and_eq_true, decide_eq_true_eq]
      exact ⟨fun ⟨h1, h2, h3, h4, h5⟩ => ⟨⟨h3, h4⟩, h1, h2, h5⟩, fun ⟨⟨h3, h4⟩, h1, h2, h5⟩ => ⟨h1, h2, h3, h4, h5⟩⟩
    · simp only [checkB, cmOf, hr, opOk, fitsB, moreB, hn', Bool.true_and, Bool.and_true]
      rw [Bool.eq_iff_iff]
      simp
      omega
    · have e : opOk (cmOf ((4 : Nat) : Int) cl sq sh sg ps l) = decide (cl = 0 ∧ sq = 0 ∧ sh = 0 ∧ sg = 0 ∧ ps = 0) := rfl
      have e2 : checkB (cmOf ((4 : Nat) : Int) cl sq sh sg ps l) = opOk (cmOf ((4 : Nat) : Int) cl sq sh sg ps l) := by unfold checkB; rw [show (cmOf ((4 : Nat) : Int) cl sq sh sg ps l).rows = l.map rlOf from rfl, hr, Bool.true_and]
      rw [e2, e]
      simp only [fitsB, moreB, Bool.true_and, Bool.and_true]
      rw [Bool.eq_iff_iff]
      simp only [Bool.and_eq_true, decide_eq_true_eq]
      omega

set_option maxRecDepth 100000 in
set_option maxHeartbeats 8000000 in
theorem check_any (w : World) (op sh sg : Int) (cl sq ps n c : Nat) (a : Option Addr) (l : List Iw) (h : RdW w a n c l) :
    Calls Try.prog 18 #[.agg #[.int .i64 op, .int .u64 (cl : Int), .int .u64 (sq : Int), .int .i64 sh, .int .i64 sg, .int .u64 (ps : Int), .slice a n c]] w
      fun e w' => e = .returned (.int .i64 (checkM (cmOf op cl sq sh sg ps l))) ∧ Below w.heap.size w w' := by
  have hbd := Rd.bound h.rd
  have ob := oneB w (.cells #[.int .i64 op, .int .u64 (cl : Int), .int .u64 (sq : Int), .int .i64 sh, .int .i64 sg, .int .u64 (ps : Int), .slice a n c] 27)
  have row0 := NB.rw_new w [.int .i64 op, .int .u64 (cl : Int), .int .u64 (sq : Int), .int .i64 sh, .int .i64 sg, .int .u64 (ps : Int), .slice a n c] 27 rfl
  simp only [List.toArray] at row0
  have B1 := ob
  have h1 := h.below ob
  have hnl := h.len
  have HN := Go.Lib.hid hnl
  clear ob hnl
  by_cases hop : 0 ≤ op ∧ op ≤ 4
  case neg =>
    have hfin : checkM (cmOf op cl sq sh sg ps l) = 1 := by
      unfold checkM
      rw [if_neg (fun hh => hop (check_op hh))]
    have HFIN := Go.Lib.hid hfin
    clear hfin h
    have hcs : op < 0 ∨ 4 < op := by omega
    clear hop
    go_enter Try.func18, Try.ntmps18
    go_wp2_with fail
    generalize w.alloc _ = w1 at *
    have row := row0.below (dB w1)
    have h2 := h1.below (dB w1)
    have B2 := B1.drew
    clear row0 h1 B1
    refine NB.wp_region_t [] (by kernel_rfl) ?_
    generalize w1.drew = w2 at *
    obtain ⟨c0, c1, c2, c3, c4, c5, c6, _⟩ := NB.rw7 row
    rcases hcs with h0 | h4
    · have h0n : ¬ 0 ≤ op := by omega
      refine NB.t_p 0 rfl (by kernel_rfl) (fun K hK => ?_); go_simp; refine hK _ ?_; clear hK K
      refine NB.t_r 1 [2, 3, 4, 5, 6, 7, 8, 9, 10, 11, 12, 13, 14, 15, 16, 17, 18, 19, 20, 21, 22, 23, 24, 25, 26, 27, 28, 29, 30] rfl (by kernel_rfl) (by kernel_rfl) (by go_simp) _ (fun w' hw' => NB.run_op_load rfl rfl Try.underlying3 rfl c0 hw') (fun K hK => ?_); go_simp; refine hK _ ?_; clear hK K
      refine NB.t_p 2 rfl (by kernel_rfl) (fun K hK => ?_); go_simp; refine hK _ ?_; clear hK K
      refine NB.t_p 3 rfl (by kernel_rfl) (fun K hK => ?_); go_simp; refine hK _ ?_; clear hK K
      refine NB.t_p 4 rfl (by kernel_rfl) (fun K hK => ?_); go_simp; refine hK _ ?_; clear hK K
      refine NB.t_p 5 rfl (by kernel_rfl) (fun K hK => ?_); go_simp; refine hK _ ?_; clear hK K
      refine NB.t_p 6 rfl (by kernel_rfl) (fun K hK => ?_); go_simp; refine hK _ ?_; clear hK K
      refine NB.t_p 7 rfl (by kernel_rfl) (fun K hK => ?_); go_simp; refine hK _ ?_; clear hK K
      refine NB.t_p 8 rfl (by kernel_rfl) (fun K hK => ?_); go_simp; refine hK _ ?_; clear hK K
      refine NB.t_p 9 rfl (by kernel_rfl) (fun K hK => ?_); go_simp; refine hK _ ?_; clear hK K
      refine NB.t_p 10 rfl (by kernel_rfl) (fun K hK => ?_); go_simp; refine hK _ ?_; clear hK K
      refine NB.t_p 11 rfl (by kernel_rfl) (fun K hK => ?_); go_simp; refine hK _ ?_; clear hK K
      refine NB.t_p 12 rfl (by kernel_rfl) (fun K hK => ?_); go_simp; refine hK _ ?_; clear hK K
      refine NB.t_p 13 rfl (by kernel_rfl) (fun K hK => ?_); go_simp; refine hK _ ?_; clear hK K
      refine NB.t_p 14 rfl (by kernel_rfl) (fun K hK => ?_); go_simp; refine hK _ ?_; clear hK K
      refine NB.t_p 15 rfl (by kernel_rfl) (fun K hK => ?_); go_simp; refine hK _ ?_; clear hK K
      refine NB.t_p 16 rfl (by kernel_rfl) (fun K hK => ?_); go_simp; refine hK _ ?_; clear hK K
      refine NB.t_p 17 rfl (by kernel_rfl) (fun K hK => ?_); go_simp; refine hK _ ?_; clear hK K
      refine NB.t_p 18 rfl (by kernel_rfl) (fun K hK => ?_); go_simp; refine hK _ ?_; clear hK K
      refine NB.t_p 19 rfl (by kernel_rfl) (fun K hK => ?_); go_simp; refine hK _ ?_; clear hK K
      refine NB.t_p 20 rfl (by kernel_rfl) (fun K hK => ?_); go_simp; refine hK _ ?_; clear hK K
      refine NB.t_p 21 rfl (by kernel_rfl) (fun K hK => ?_); go_simp; refine hK _ ?_; clear hK K
      refine NB.t_p 22 rfl (by kernel_rfl) (fun K hK => ?_); go_simp; refine hK _ ?_; clear hK K
      refine NB.t_p 23 rfl (by kernel_rfl) (fun K hK => ?_); go_simp; refine hK _ ?_; clear hK K
      refine NB.t_p 24 rfl (by kernel_rfl) (fun K hK => ?_); go_simp; refine hK _ ?_; clear hK K
      refine NB.t_p 25 rfl (by kernel_rfl) (fun K hK => ?_); go_simp; refine hK _ ?_; clear hK K
      refine NB.t_p 26 rfl (by kernel_rfl) (fun K hK => ?_); go_simp; refine hK _ ?_; clear hK K
      refine NB.t_p 27 rfl (by kernel_rfl) (fun K hK => ?_); go_simp; refine hK _ ?_; clear hK K
      refine NB.t_p 28 rfl (by kernel_rfl) (fun K hK => ?_); go_simp; refine hK _ ?_; clear hK K
      refine NB.t_p 29 rfl (by kernel_rfl) (fun K hK => ?_); go_simp; refine hK _ ?_; clear hK K
      refine NB.t_p 30 rfl (by kernel_rfl) (fun K hK => ?_); go_simp; refine hK _ ?_; clear hK K
      refine NB.t_end (by kernel_rfl) ?_
      go_wp2_with fail
      all_goals go_ret
      all_goals exact ⟨by rw [HFIN.out]; rfl, B2⟩
    · have h4n : ¬ op ≤ 4 := by omega
      have h0n : 0 ≤ op := by omega
      refine NB.t_p 0 rfl (by kernel_rfl) (fun K hK => ?_); go_simp; refine hK _ ?_; clear hK K
      refine NB.t_r 1 [2, 3, 4, 5, 6, 7, 8, 9, 10, 11, 12, 13, 14, 15, 16, 17, 18, 19, 20, 21, 22, 23, 24, 25, 26, 27, 28, 29, 30] rfl (by kernel_rfl) (by kernel_rfl) (by go_simp) _ (fun w' hw' => NB.run_op_load rfl rfl Try.underlying3 rfl c0 hw') (fun K hK => ?_); go_simp; refine hK _ ?_; clear hK K
      refine NB.t_p 2 rfl (by kernel_rfl) (fun K hK => ?_); go_simp; refine hK _ ?_; clear hK K
      refine NB.t_p 3 rfl (by kernel_rfl) (fun K hK => ?_); go_simp; refine hK _ ?_; clear hK K
      refine NB.t_p 4 rfl (by kernel_rfl) (fun K hK => ?_); go_simp; refine hK _ ?_; clear hK K
      refine NB.t_r 5 [6, 7, 8, 9, 10, 11, 12, 13, 14, 15, 16, 17, 18, 19, 20, 21, 22, 23, 24, 25, 26, 27, 28, 29, 30] rfl (by kernel_rfl) (by kernel_rfl) (by go_simp) _ (fun w' hw' => NB.run_op_load rfl rfl Try.underlying3 rfl c0 hw') (fun K hK => ?_); go_simp; refine hK _ ?_; clear hK K
      refine NB.t_p 6 rfl (by kernel_rfl) (fun K hK => ?_); go_simp; refine hK _ ?_; clear hK K
      refine NB.t_p 7 rfl (by kernel_rfl) (fun K hK => ?_); go_simp; refine hK _ ?_; clear hK K
      refine NB.t_p 8 rfl (by kernel_rfl) (fun K hK => ?_); go_simp; refine hK _ ?_; clear hK K
      refine NB.t_p 9 rfl (by kernel_rfl) (fun K hK => ?_); go_simp; refine hK _ ?_; clear hK K
      refine NB.t_p 10 rfl (by kernel_rfl) (fun K hK => ?_); go_simp; refine hK _ ?_; clear hK K
      refine NB.t_p 11 rfl (by kernel_rfl) (fun K hK => ?_); go_simp; refine hK _ ?_; clear hK K
      refine NB.t_p 12 rfl (by kernel_rfl) (fun K hK => ?_); go_simp; refine hK _ ?_; clear hK K
      refine NB.t_p 13 rfl (by kernel_rfl) (fun K hK => ?_); go_simp; refine hK _ ?_; clear hK K
      refine NB.t_p 14 rfl (by kernel_rfl) (fun K hK => ?_); go_simp; refine hK _ ?_; clear hK K
      refine NB.t_p 15 rfl (by kernel_rfl) (fun K hK => ?_); go_simp; refine hK _ ?_; clear hK K
      refine NB.t_p 16 rfl (by kernel_rfl) (fun K hK => ?_); go_simp; refine hK _ ?_; clear hK K
      refine NB.t_p 17 rfl (by kernel_rfl) (fun K hK => ?_); go_simp; refine hK _ ?_; clear hK K
      refine NB.t_p 18 rfl (by kernel_rfl) (fun K hK => ?_); go_simp; refine hK _ ?_; clear hK K
      refine NB.t_p 19 rfl (by kernel_rfl) (fun K hK => ?_); go_simp; refine hK _ ?_; clear hK K
      refine NB.t_p 20 rfl (by kernel_rfl) (fun K hK => ?_); go_simp; refine hK _ ?_; clear hK K
      refine NB.t_p 21 rfl (by kernel_rfl) (fun K hK => ?_); go_simp; refine hK _ ?_; clear hK K
      refine NB.t_p 22 rfl (by kernel_rfl) (fun K hK => ?_); go_simp; refine hK _ ?_; clear hK K
      refine NB.t_p 23 rfl (by kernel_rfl) (fun K hK => ?_); go_simp; refine hK _ ?_; clear hK K
      refine NB.t_p 24 rfl (by kernel_rfl) (fun K hK => ?_); go_simp; refine hK _ ?_; clear hK K
      refine NB.t_p 25 rfl (by kernel_rfl) (fun K hK => ?_); go_simp; refine hK _ ?_; clear hK K
      refine NB.t_p 26 rfl (by kernel_rfl) (fun K hK => ?_); go_simp; refine hK _ ?_; clear hK K
      refine NB.t_p 27 rfl (by kernel_rfl) (fun K hK => ?_); go_simp; refine hK _ ?_; clear hK K
      refine NB.t_p 28 rfl (by kernel_rfl) (fun K hK => ?_); go_simp; refine hK _ ?_; clear hK K
      refine NB.t_p 29 rfl (by kernel_rfl) (fun K hK => ?_); go_simp; refine hK _ ?_; clear hK K
      refine NB.t_p 30 rfl (by kernel_rfl) (fun K hK => ?_); go_simp; refine hK _ ?_; clear hK K
      refine NB.t_end (by kernel_rfl) ?_
      go_wp2_with fail
      all_goals go_ret
      all_goals exact ⟨by rw [HFIN.out]; rfl, B2⟩
  obtain ⟨k, rfl⟩ := Int.eq_ofNat_of_zero_le hop.1
  have hk4 : k ≤ 4 := by omega
  have hk4i : (k : Int) ≤ 4 := by omega
  have hk0i : (0 : Int) ≤ (k : Int) := by omega
  have his := check_is k hk4 cl sq sh sg ps n l HN.out
  clear hop h
  have HIS := Go.Lib.hid his
  clear his
  obtain ⟨fb, hfb⟩ : ∃ fb, fitsB k cl sq sh sg ps n = fb := ⟨_, rfl⟩
  have HF := Go.Lib.hid hfb
  clear hfb
  obtain ⟨V, hV⟩ : ∃ V, rowsOk (-1) (l.map rlOf) = V := ⟨_, rfl⟩
  have HV := Go.Lib.hid hV
  clear hV
  obtain ⟨C, hC⟩ : ∃ C, checkM (cmOf (k : Int) cl sq sh sg ps l) = C := ⟨_, rfl⟩
  rw [hC]
  have HC := Go.Lib.hid hC
  clear hC
  go_enter Try.func18, Try.ntmps18
  go_wp2_with fail
  generalize hw1 : w.alloc _ = w1 at *
  clear hw1
  have row := row0.below (dB w1)
  have h2 := h1.below (dB w1)
  have B2 := B1.drew
  clear row0 h1 B1
  refine NB.wp_region_t [] (by kernel_rfl) ?_
  generalize w1.drew = w2 at *
  obtain ⟨c0, _⟩ := NB.rw7 row
  refine NB.t_p 0 rfl (by kernel_rfl) (fun K hK => ?_); go_simp; refine hK _ ?_; clear hK K
  refine NB.t_r 1 [2, 3, 4, 5, 6, 7, 8, 9, 10, 11, 12, 13, 14, 15, 16, 17, 18, 19, 20, 21, 22, 23, 24, 25, 26, 27, 28, 29, 30] rfl (by kernel_rfl) (by kernel_rfl) (by go_simp) _ (fun w' hw' => NB.run_op_load rfl rfl Try.underlying3 rfl c0 hw') (fun K hK => ?_); go_simp; refine hK _ ?_; clear hK K
  refine NB.t_p 2 rfl (by kernel_rfl) (fun K hK => ?_); go_simp; refine hK _ ?_; clear hK K
  refine NB.t_p 3 rfl (by kernel_rfl) (fun K hK => ?_); go_simp; refine hK _ ?_; clear hK K
  refine NB.t_p 4 rfl (by kernel_rfl) (fun K hK => ?_); go_simp; refine hK _ ?_; clear hK K
  refine NB.t_r 5 [6, 7, 8, 9, 10, 11, 12, 13, 14, 15, 16, 17, 18, 19, 20, 21, 22, 23, 24, 25, 26, 27, 28, 29, 30] rfl (by kernel_rfl) (by kernel_rfl) (by go_simp) _ (fun w' hw' => NB.run_op_load rfl rfl Try.underlying3 rfl c0 hw') (fun K hK => ?_); go_simp; refine hK _ ?_; clear hK K
  refine NB.t_p 6 rfl (by kernel_rfl) (fun K hK => ?_); go_simp; refine hK _ ?_; clear hK K
  refine NB.t_p 7 rfl (by kernel_rfl) (fun K hK => ?_); go_simp; refine hK _ ?_; clear hK K
  refine NB.t_p 8 rfl (by kernel_rfl) (fun K hK => ?_); go_simp; refine hK _ ?_; clear hK K
  refine NB.t_r 9 [13, 14, 15, 16, 17, 18, 19, 20, 21, 22, 23, 24, 25, 26, 27, 28, 29, 30] rfl (by kernel_rfl) (by kernel_rfl) (by go_simp) _ (fun w' hw' => NB.run_op_load_agg (off := 0) (m := 7) rfl rfl Try.underlying27 rfl _ _ _ row (by kernel_rfl) (Nat.le_refl _) _ rfl hw') (fun K hK => ?_); go_simp; refine hK _ ?_; clear hK K
  refine NB.t_p 10 rfl (by kernel_rfl) (fun K hK => ?_); go_simp; refine hK _ ?_; clear hK K
  refine NB.t_r 11 [12, 13, 14, 15, 16, 17, 18, 19, 20, 21, 22, 23, 24, 25, 26, 27, 28, 29, 30] rfl (by kernel_rfl) (by kernel_rfl) (by go_simp) _ (fun w' hw' => NB.run_op_load rfl rfl Try.underlying3 rfl c0 hw') (fun K hK => ?_); go_simp; refine hK _ ?_; clear hK K
  refine NB.t_e 12 rfl (by kernel_rfl) (by kernel_rfl) (fun K hK => ?_); unfold NB.tmoves; go_simp; refine (of_any _ k hk4).mono ?_; rintro e w3 ⟨rfl, hb3⟩; refine ⟨_, rfl, hb3, hK _ _ ?_⟩; clear hK K
  refine NB.t_e 13 rfl (by kernel_rfl) (by kernel_rfl) (fun K hK => ?_); unfold NB.tmoves; go_simp; refine (fits_any _ k hk4 (k : Int) sh sg cl sq ps n c a hbd.1).mono ?_; rintro e w4 ⟨rfl, hb4⟩; rw [HF.out]; refine ⟨_, rfl, hb4, hK _ _ ?_⟩; clear hK K
  have row4 := (row.below hb3).below hb4
  have r4 := (h2.below hb3).below hb4
  have B4 := NB.bel (NB.bel B2 hb3 B2.size) hb4 (Nat.le_trans B2.size hb3.size)
  clear row h2 B2 hb3 hb4 c0
  obtain ⟨c0, c1, c2, c3, c4, c5, c6, _⟩ := NB.rw7 row4
  cases fb with
  | false =>
    have hfin : C = 1 := by
      rw [← HC.out]
      unfold checkM
      rw [HIS.out, if_neg]
      rw [HF.out]; simp
    have HFIN := Go.Lib.hid hfin
    clear hfin HIS HF HV HC
    refine NB.t_p 14 rfl (by kernel_rfl) (fun K hK => ?_); go_simp; refine hK _ ?_; clear hK K
    refine NB.t_p 15 rfl (by kernel_rfl) (fun K hK => ?_); go_simp; refine hK _ ?_; clear hK K
    refine NB.t_p 16 rfl (by kernel_rfl) (fun K hK => ?_); go_simp; refine hK _ ?_; clear hK K
    refine NB.t_p 17 rfl (by kernel_rfl) (fun K hK => ?_); go_simp; refine hK _ ?_; clear hK K
    refine NB.t_p 18 rfl (by kernel_rfl) (fun K hK => ?_); go_simp; refine hK _ ?_; clear hK K
    refine NB.t_p 19 rfl (by kernel_rfl) (fun K hK => ?_); go_simp; refine hK _ ?_; clear hK K
    refine NB.t_p 20 rfl (by kernel_rfl) (fun K hK => ?_); go_simp; refine hK _ ?_; clear hK K
    refine NB.t_p 21 rfl (by kernel_rfl) (fun K hK => ?_); go_simp; refine hK _ ?_; clear hK K
    refine NB.t_p 22 rfl (by kernel_rfl) (fun K hK => ?_); go_simp; refine hK _ ?_; clear hK K
    refine NB.t_p 23 rfl (by kernel_rfl) (fun K hK => ?_); go_simp; refine hK _ ?_; clear hK K
    refine NB.t_p 24 rfl (by kernel_rfl) (fun K hK => ?_); go_simp; refine hK _ ?_; clear hK K
    refine NB.t_p 25 rfl (by kernel_rfl) (fun K hK => ?_); go_simp; refine hK _ ?_; clear hK K
    refine NB.t_p 26 rfl (by kernel_rfl) (fun K hK => ?_); go_simp; refine hK _ ?_; clear hK K
    refine NB.t_p 27 rfl (by kernel_rfl) (fun K hK => ?_); go_simp; refine hK _ ?_; clear hK K
    refine NB.t_p 28 rfl (by kernel_rfl) (fun K hK => ?_); go_simp; refine hK _ ?_; clear hK K
    refine NB.t_p 29 rfl (by kernel_rfl) (fun K hK => ?_); go_simp; refine hK _ ?_; clear hK K
    refine NB.t_p 30 rfl (by kernel_rfl) (fun K hK => ?_); go_simp; refine hK _ ?_; clear hK K
    refine NB.t_end (by kernel_rfl) ?_
    go_wp2_with fail
    all_goals go_ret
    all_goals exact ⟨by rw [HFIN.out]; rfl, B4⟩
  | true =>
    by_cases hs0 : sh < 0
    · have hfin : C = 1 := by
        rw [← HC.out]
        unfold checkM
        rw [HIS.out, if_neg]
        have e1 : decide (0 ≤ sh) = false := decide_eq_false (by omega)
        rw [e1]; simp
      have HFIN := Go.Lib.hid hfin
      clear hfin HIS HF HV HC
      have hs0n : ¬ 0 ≤ sh := by omega
      refine NB.t_p 14 rfl (by kernel_rfl) (fun K hK => ?_); go_simp; refine hK _ ?_; clear hK K
      refine NB.t_p 15 rfl (by kernel_rfl) (fun K hK => ?_); go_simp; refine hK _ ?_; clear hK K
      refine NB.t_p 16 rfl (by kernel_rfl) (fun K hK => ?_); go_simp; refine hK _ ?_; clear hK K
      refine NB.t_r 17 [18, 19, 20, 21, 22, 23, 24, 25, 26, 27, 28, 29, 30] rfl (by kernel_rfl) (by kernel_rfl) (by go_simp) _ (fun w' hw' => NB.run_op_load rfl rfl Try.underlying3 rfl c3 hw') (fun K hK => ?_); go_simp; refine hK _ ?_; clear hK K
      refine NB.t_p 18 rfl (by kernel_rfl) (fun K hK => ?_); go_simp; refine hK _ ?_; clear hK K
      refine NB.t_p 19 rfl (by kernel_rfl) (fun K hK => ?_); go_simp; refine hK _ ?_; clear hK K
      refine NB.t_p 20 rfl (by kernel_rfl) (fun K hK => ?_); go_simp; refine hK _ ?_; clear hK K
      refine NB.t_p 21 rfl (by kernel_rfl) (fun K hK => ?_); go_simp; refine hK _ ?_; clear hK K
      refine NB.t_p 22 rfl (by kernel_rfl) (fun K hK => ?_); go_simp; refine hK _ ?_; clear hK K
      refine NB.t_p 23 rfl (by kernel_rfl) (fun K hK => ?_); go_simp; refine hK _ ?_; clear hK K
      refine NB.t_p 24 rfl (by kernel_rfl) (fun K hK => ?_); go_simp; refine hK _ ?_; clear hK K
      refine NB.t_p 25 rfl (by kernel_rfl) (fun K hK => ?_); go_simp; refine hK _ ?_; clear hK K
      refine NB.t_p 26 rfl (by kernel_rfl) (fun K hK => ?_); go_simp; refine hK _ ?_; clear hK K
      refine NB.t_p 27 rfl (by kernel_rfl) (fun K hK => ?_); go_simp; refine hK _ ?_; clear hK K
      refine NB.t_p 28 rfl (by kernel_rfl) (fun K hK => ?_); go_simp; refine hK _ ?_; clear hK K
      refine NB.t_p 29 rfl (by kernel_rfl) (fun K hK => ?_); go_simp; refine hK _ ?_; clear hK K
      refine NB.t_p 30 rfl (by kernel_rfl) (fun K hK => ?_); go_simp; refine hK _ ?_; clear hK K
      refine NB.t_end (by kernel_rfl) ?_
      go_wp2_with fail
      all_goals go_ret
      all_goals exact ⟨by rw [HFIN.out]; rfl, B4⟩
    by_cases hs8 : 8 ≤ sh
    · have hfin : C = 1 := by
        rw [← HC.out]
        unfold checkM
        rw [HIS.out, if_neg]
        have e1 : decide (sh < 8) = false := decide_eq_false (by omega)
        rw [e1]; simp
      have HFIN := Go.Lib.hid hfin
      clear hfin HIS HF HV HC
      have hs8n : ¬ sh < 8 := by omega
      have hs0n : 0 ≤ sh := by omega
      refine NB.t_p 14 rfl (by kernel_rfl) (fun K hK => ?_); go_simp; refine hK _ ?_; clear hK K
      refine NB.t_p 15 rfl (by kernel_rfl) (fun K hK => ?_); go_simp; refine hK _ ?_; clear hK K
      refine NB.t_p 16 rfl (by kernel_rfl) (fun K hK => ?_); go_simp; refine hK _ ?_; clear hK K
      refine NB.t_r 17 [18, 19, 20, 21, 22, 23, 24, 25, 26, 27, 28, 29, 30] rfl (by kernel_rfl) (by kernel_rfl) (by go_simp) _ (fun w' hw' => NB.run_op_load rfl rfl Try.underlying3 rfl c3 hw') (fun K hK => ?_); go_simp; refine hK _ ?_; clear hK K
      refine NB.t_p 18 rfl (by kernel_rfl) (fun K hK => ?_); go_simp; refine hK _ ?_; clear hK K
      refine NB.t_p 19 rfl (by kernel_rfl) (fun K hK => ?_); go_simp; refine hK _ ?_; clear hK K
      refine NB.t_p 20 rfl (by kernel_rfl) (fun K hK => ?_); go_simp; refine hK _ ?_; clear hK K
      refine NB.t_p 21 rfl (by kernel_rfl) (fun K hK => ?_); go_simp; refine hK _ ?_; clear hK K
      refine NB.t_r 22 [23, 24, 25, 26, 27, 28, 29, 30] rfl (by kernel_rfl) (by kernel_rfl) (by go_simp) _ (fun w' hw' => NB.run_op_load rfl rfl Try.underlying3 rfl c3 hw') (fun K hK => ?_); go_simp; refine hK _ ?_; clear hK K
      refine NB.t_p 23 rfl (by kernel_rfl) (fun K hK => ?_); go_simp; refine hK _ ?_; clear hK K
      refine NB.t_p 24 rfl (by kernel_rfl) (fun K hK => ?_); go_simp; refine hK _ ?_; clear hK K
      refine NB.t_p 25 rfl (by kernel_rfl) (fun K hK => ?_); go_simp; refine hK _ ?_; clear hK K
      refine NB.t_p 26 rfl (by kernel_rfl) (fun K hK => ?_); go_simp; refine hK _ ?_; clear hK K
      refine NB.t_p 27 rfl (by kernel_rfl) (fun K hK => ?_); go_simp; refine hK _ ?_; clear hK K
      refine NB.t_p 28 rfl (by kernel_rfl) (fun K hK => ?_); go_simp; refine hK _ ?_; clear hK K
      refine NB.t_p 29 rfl (by kernel_rfl) (fun K hK => ?_); go_simp; refine hK _ ?_; clear hK K
      refine NB.t_p 30 rfl (by kernel_rfl) (fun K hK => ?_); go_simp; refine hK _ ?_; clear hK K
      refine NB.t_end (by kernel_rfl) ?_
      go_wp2_with fail
      all_goals go_ret
      all_goals exact ⟨by rw [HFIN.out]; rfl, B4⟩
    have hs8n : sh < 8 := by omega
    have hs0n : 0 ≤ sh := by omega
    refine NB.t_p 14 rfl (by kernel_rfl) (fun K hK => ?_); go_simp; refine hK _ ?_; clear hK K
    refine NB.t_p 15 rfl (by kernel_rfl) (fun K hK => ?_); go_simp; refine hK _ ?_; clear hK K
    refine NB.t_p 16 rfl (by kernel_rfl) (fun K hK => ?_); go_simp; refine hK _ ?_; clear hK K
    refine NB.t_r 17 [18, 19, 20, 21, 22, 23, 24, 25, 26, 27, 28, 29, 30] rfl (by kernel_rfl) (by kernel_rfl) (by go_simp) _ (fun w' hw' => NB.run_op_load rfl rfl Try.underlying3 rfl c3 hw') (fun K hK => ?_); go_simp; refine hK _ ?_; clear hK K
    refine NB.t_p 18 rfl (by kernel_rfl) (fun K hK => ?_); go_simp; refine hK _ ?_; clear hK K
    refine NB.t_p 19 rfl (by kernel_rfl) (fun K hK => ?_); go_simp; refine hK _ ?_; clear hK K
    refine NB.t_p 20 rfl (by kernel_rfl) (fun K hK => ?_); go_simp; refine hK _ ?_; clear hK K
    refine NB.t_p 21 rfl (by kernel_rfl) (fun K hK => ?_); go_simp; refine hK _ ?_; clear hK K
    refine NB.t_r 22 [23, 24, 25, 26, 27, 28, 29, 30] rfl (by kernel_rfl) (by kernel_rfl) (by go_simp) _ (fun w' hw' => NB.run_op_load rfl rfl Try.underlying3 rfl c3 hw') (fun K hK => ?_); go_simp; refine hK _ ?_; clear hK K
    refine NB.t_p 23 rfl (by kernel_rfl) (fun K hK => ?_); go_simp; refine hK _ ?_; clear hK K
    refine NB.t_p 24 rfl (by kernel_rfl) (fun K hK => ?_); go_simp; refine hK _ ?_; clear hK K
    refine NB.t_p 25 rfl (by kernel_rfl) (fun K hK => ?_); go_simp; refine hK _ ?_; clear hK K
    refine NB.t_p 26 rfl (by kernel_rfl) (fun K hK => ?_); go_simp; refine hK _ ?_; clear hK K
    refine NB.t_r 27 [28, 29, 30] rfl (by kernel_rfl) (by kernel_rfl) (by go_simp) _ (fun w' hw' => NB.run_op_load rfl rfl Try.underlying25 rfl c6 hw') (fun K hK => ?_); go_simp; refine hK _ ?_; clear hK K
    refine NB.t_e 28 rfl (by kernel_rfl) (by kernel_rfl) (fun K hK => ?_); unfold NB.tmoves; go_simp; refine (rows_any _ a n c l r4).mono ?_; rintro e w5 ⟨rfl, hb5⟩; rw [HV.out]; refine ⟨_, rfl, hb5, hK _ _ ?_⟩; clear hK K
    have row5 := row4.below hb5
    have r5 := r4.below hb5
    have B5 := NB.bel B4 hb5 B4.size
    clear row4 r4 hb5 B4 c0 c1 c2 c3 c4 c5 c6
    obtain ⟨c0, c1, c2, c3, c4, c5, c6, _⟩ := NB.rw7 row5
    refine NB.t_p 29 rfl (by kernel_rfl) (fun K hK => ?_); go_simp; refine hK _ ?_; clear hK K
    refine NB.t_p 30 rfl (by kernel_rfl) (fun K hK => ?_); go_simp; refine hK _ ?_; clear hK K
    refine NB.t_end (by kernel_rfl) ?_
    cases V with
    | false =>
      have hfin : C = 1 := by
        rw [← HC.out]
        unfold checkM
        rw [HIS.out, if_neg]
        rw [HV.out]; simp
      have HFIN := Go.Lib.hid hfin
      clear hfin HIS HF HV HC
      go_wp2_with fail
      all_goals go_ret
      all_goals exact ⟨by rw [HFIN.out]; rfl, B5⟩
    | true =>
      have hfin : C = if moreB k sh sg l = true then 0 else 1 := by
        rw [← HC.out]
        unfold checkM
        have e1 : decide (0 ≤ sh) = true := decide_eq_true (by omega)
        have e2 : decide (sh < 8) = true := decide_eq_true (by omega)
        rw [HIS.out, HF.out, HV.out, e1, e2]
        simp
      have HFIN := Go.Lib.hid hfin
      clear hfin HIS HF HV HC
      have h5 : k = 0 ∨ k = 1 ∨ k = 2 ∨ k = 3 ∨ k = 4 := by omega
      rcases h5 with rfl | rfl | rfl | rfl | rfl
      · go_wp2_with fail
        go_ret
        exact ⟨by rw [HFIN.out]; rfl, B5⟩
      · by_cases hg : 1 ≤ sg ∧ sg ≤ 4
        · obtain ⟨hg1, hg2⟩ := hg
          go_wp2_with fail
          go_ret
          exact ⟨by rw [HFIN.out]; simp [moreB, hg1, hg2], B5⟩
        · have hg1 : ¬ 1 ≤ sg ∨ (1 ≤ sg ∧ ¬ sg ≤ 4) := by omega
          rcases hg1 with hg1 | ⟨hg1, hg2⟩
          · go_wp2_with fail
            go_ret
            exact ⟨by rw [HFIN.out, if_neg (by simp [moreB]; omega)]; rfl, B5⟩
          · go_wp2_with fail
            go_ret
            exact ⟨by rw [HFIN.out, if_neg (by simp [moreB]; omega)]; rfl, B5⟩
      · obtain ⟨V2, hV2⟩ : ∃ V2, anyNe l sh = V2 := ⟨_, rfl⟩
        have HV2 := Go.Lib.hid hV2
        clear hV2
        go_wp2_with (go_at_call 42; refine (contains_any _ a n c l _ sh r5 c3).mono ?_; rw [HV2.out]; rintro e w6 ⟨rfl, hb6⟩)
        all_goals
          have B6 := NB.bel B5 hb6 B5.size
          go_ret
          exact ⟨by rw [HFIN.out]; simp [moreB, HV2.out, *], B6⟩
      · go_wp2_with fail
        go_ret
        exact ⟨by rw [HFIN.out]; rfl, B5⟩
      · go_wp2_with fail
        go_ret
        exact ⟨by rw [HFIN.out]; rfl, B5⟩
end Go.Proofs.Ytnkmlopgfgdajaa
