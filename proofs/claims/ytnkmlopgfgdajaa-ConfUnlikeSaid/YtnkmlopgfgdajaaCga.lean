/- Commands: the document's example, and whether one has few rows. -/
import Derived.Test.YtnkmlopgfgdajaaCfo
import Derived.Test.YtnkmlopgfgdajaaCfd
namespace Go.Proofs.Ytnkmlopgfgdajaa
open Go.RowKit
open Go.NB (Rd RdU Kp Stp Dis Rr Rw oneB dB encU digs)

theorem check_rng {op sh sg : Int} {cl sq ps : Nat} {l : List Iw} (h : checkB (cmOf op cl sq sh sg ps l) = true) : (0 ≤ op ∧ op ≤ 4) ∧ (0 ≤ sh ∧ sh < 8) ∧ 0 ≤ sg ∧ sg < 5 := by
  have h1 := check_op h
  refine ⟨h1, ?_⟩
  have h1' : 0 ≤ op ∧ op ≤ 4 := h1
  obtain ⟨k, rfl⟩ := Int.eq_ofNat_of_zero_le h1'.1
  have hk : k ≤ 4 := by omega
  rw [check_is k hk cl sq sh sg ps l.length l rfl] at h
  simp only [Bool.and_eq_true, decide_eq_true_eq] at h
  obtain ⟨hf, hs0, hs8, _, hm⟩ := h
  refine ⟨⟨hs0, hs8⟩, ?_⟩
  have h5 : k = 0 ∨ k = 1 ∨ k = 2 ∨ k = 3 ∨ k = 4 := by omega
  rcases h5 with rfl | rfl | rfl | rfl | rfl
  · have := of_decide_eq_true (show decide (cl = 0 ∧ sq = 0 ∧ sh = 0 ∧ sg = 0 ∧ ps = 0 ∧ l.length = 0) = true from hf); omega
  · have hm' : (decide (1 ≤ sg) && decide (sg ≤ 4)) = true := hm
    simp only [Bool.and_eq_true, decide_eq_true_eq] at hm'; omega
  · have := of_decide_eq_true (show decide (sg = 0 ∧ ps = 0) = true from hf); omega
  · have := of_decide_eq_true (show decide (sh = 0 ∧ sg = 0 ∧ l.length = 0) = true from hf); omega
  · have := of_decide_eq_true (show decide (cl = 0 ∧ sq = 0 ∧ sh = 0 ∧ sg = 0 ∧ ps = 0) = true from hf); omega

theorem cput_any (w : World) (op sh sg : Int) (cl sq ps n c : Nat) (a : Option Addr) (l : List Iw) (h : RdW w a n c l) (hcl : cl < 18446744073709551616) (hsq : sq < 18446744073709551616) (hps : ps < 18446744073709551616) :
    Calls Try.prog 16 #[.agg #[.int .i64 op, .int .u64 (cl : Int), .int .u64 (sq : Int), .int .i64 sh, .int .i64 sg, .int .u64 (ps : Int), .slice a n c]] w
      (BytE w (putM (cmOf op cl sq sh sg ps l))) := by
  cases hk : checkB (cmOf op cl sq sh sg ps l) with
  | false => exact cput_no w op sh sg cl sq ps n c a l h hk
  | true =>
    obtain ⟨⟨h1, h2⟩, ⟨h3, h4⟩, h5, h6⟩ := check_rng hk
    obtain ⟨k, rfl⟩ := Int.eq_ofNat_of_zero_le h1
    obtain ⟨sh, rfl⟩ := Int.eq_ofNat_of_zero_le h3
    obtain ⟨sg, rfl⟩ := Int.eq_ofNat_of_zero_le h5
    have hq : putM (cmOf (k : Int) cl sq sh sg ps l) = (putL (cmOf (k : Int) cl sq sh sg ps l), 0) := by unfold putM; rw [hk]; rfl
    rw [hq]
    exact cput_yes w k sh sg cl sq ps n c a l h hk hcl hsq (by omega) (by omega) hps

/-- What is got, as one that is put. -/
theorem cm_eta {C : Cm} {L : List Iw} (h : L.map rlOf = C.rows) : cmOf C.op C.client C.seq C.shard C.segs C.pos L = C := by
  obtain ⟨op, cl, sq, sh, sg, ps, rs⟩ := C
  simp only at h
  subst h
  rfl

theorem enc1 (x : Nat) (h : x ≠ 0) (h2 : x < 256) : encU x = [1, UInt8.ofNat x] := by
  unfold encU
  rw [NB.digs_pos x h, show x / 256 = 0 by omega, NB.digs_zero, show x % 256 = x by omega]
  rfl
theorem ex_put : putL (cmOf 3 1 2 0 0 5 []) = [3, 1, 1, 1, 2, 1, 5] := by
  have e : putL (cmOf 3 1 2 0 0 5 []) = 3 :: (encU 1 ++ (encU 2 ++ encU 5)) := rfl
  rw [e, enc1 1 (by omega) (by omega), enc1 2 (by omega) (by omega), enc1 5 (by omega) (by omega)]
  rfl
theorem ex_ok : checkB (cmOf 3 1 2 0 0 5 []) = true := rfl
theorem ex_wf : WfC (cmOf 3 1 2 0 0 5 []) := ⟨by simp [cmOf], by simp [cmOf], by simp [cmOf], by simp [cmOf]⟩
theorem ex_get : getM [3, 1, 1, 1, 2, 1, 5] = (cmOf 3 1 2 0 0 5 [], 0) := by
  have := getM_put ex_ok ex_wf []
  rw [List.append_nil, ex_put, if_pos rfl] at this
  exact this

set_option maxHeartbeats 2000000 in
theorem cawake_any (w : World) : Calls Try.prog 10 #[] w fun e w' => e = .returned (.bool true) ∧ Below w.heap.size w w' := by
  have hW0 : ∀ w, RdW w none 0 0 [] := fun w => ⟨Rd.nil_mk, fun x hx => nomatch hx⟩
  have cp := fun w => cput_any w 3 0 0 1 2 5 0 0 none [] (hW0 w) (by omega) (by omega) (by omega)
  have hq : putM (cmOf 3 1 2 0 0 5 []) = ([3, 1, 1, 1, 2, 1, 5], 0) := by unfold putM; rw [ex_ok, if_pos rfl, ex_put]
  rw [hq] at cp
  have ck := fun w => check_any w 1 0 0 0 0 0 0 0 none [] (hW0 w)
  rw [show checkM (cmOf 1 0 0 0 0 0 []) = 1 from rfl] at ck
  have CP := Go.Lib.hid cp; have CK := Go.Lib.hid ck
  clear hW0 cp hq ck
  have ob := oneB w (.cells #[.int .i64 3, .int .u64 1, .int .u64 2, .int .i64 0, .int .i64 0, .int .u64 5, .slice none 0 0] 27)
  go_enter Try.func10, Try.ntmps10
  go_wp2_with fail
  refine (CP.out _).mono ?_
  rintro e w1 ⟨a1, c1, rfl, ho1, hb1⟩
  unfold NB.OwnB at ho1
  simp only [List.length_cons, List.length_nil] at ho1 ⊢
  obtain ⟨a1', c1', e1, hr1, _, _⟩ := NB.rd_of_own ho1
  cases e1
  have B1 := NB.bel ob hb1 ob.size
  have hr1 : NB.RdB w1 a1 7 c1 [3, 1, 1, 1, 2, 1, 5] := hr1
  clear ho1 hb1 ob
  go_wp2_with fail
  refine (cget_any _ a1 7 c1 _ hr1 (by omega)).mono ?_
  rw [ex_get]
  rintro e w2 ⟨a2, c2, L, rfl, _, hL, hb2⟩
  obtain rfl : L = [] := List.map_eq_nil_iff.1 hL
  have B2 := NB.bel B1 hb2 B1.size
  have r2 := Rd.below hr1 hb2
  have ob := oneB w2 (.cells #[.int .i64 3, .int .u64 1, .int .u64 2, .int .i64 0, .int .i64 0, .int .u64 5, .slice a2 0 c2] 27)
  have r3 := Rd.below r2 ob
  have B3 := NB.bel B2 ob B2.size
  obtain ⟨b3, o3, rfl, hc3⟩ := Rd.pos r3 (by omega)
  have q0 : (w2.alloc (.cells #[.int .i64 3, .int .u64 1, .int .u64 2, .int .i64 0, .int .i64 0, .int .u64 5, .slice a2 0 c2] 27)).cell? ⟨b3, o3, none⟩ = some (.int .u8 3) := hc3 0 _ rfl
  have q6 : (w2.alloc (.cells #[.int .i64 3, .int .u64 1, .int .u64 2, .int .i64 0, .int .i64 0, .int .u64 5, .slice a2 0 c2] 27)).cell? ⟨b3, o3 + 6, none⟩ = some (.int .u8 5) := hc3 6 _ rfl
  clear hr1 hb2 r2 ob r3 hc3 B1 B2 hL
  simp only [cmOf]
  go_wp2_with fail
  refine (CK.out _).mono ?_
  rintro e w4 ⟨rfl, hb4⟩
  have B4 := NB.bel B3 hb4 B3.size
  go_wp2_with fail
  go_ret
  exact ⟨rfl, B4⟩

def shortB (L : List Iw) : Bool := decide (L.length ≤ 12) && L.all fun x => decide (x.l.length ≤ 8)
set_option maxHeartbeats 1000000 in
theorem short_any (w : World) (op sh sg : Int) (cl sq ps n c : Nat) (a : Option Addr) (l : List Iw) (h : RdW w a n c l) :
    Calls Try.prog 15 #[.agg #[.int .i64 op, .int .u64 (cl : Int), .int .u64 (sq : Int), .int .i64 sh, .int .i64 sg, .int .u64 (ps : Int), .slice a n c]] w fun e w' => e = .returned (.bool (shortB l)) ∧ Below w.heap.size w w' := by
  have hbd := Rd.bound h.rd
  have hl := h.len
  obtain ⟨V, hV⟩ : ∃ V, V = shortB l := ⟨_, rfl⟩
  rw [← hV]
  have HV := Go.Lib.hid hV
  have HL := Go.Lib.hid hl
  clear hV hl
  have ob := oneB w (.cells #[.int .i64 op, .int .u64 (cl : Int), .int .u64 (sq : Int), .int .i64 sh, .int .i64 sg, .int .u64 (ps : Int), .slice a n c] 27)
  have r1 := NB.rw_new w [.int .i64 op, .int .u64 (cl : Int), .int .u64 (sq : Int), .int .i64 sh, .int .i64 sg, .int .u64 (ps : Int), .slice a n c] 27 rfl
  simp only [List.toArray] at r1
  by_cases h12 : 12 < n
  · have h12i : (12 : Int) < (n : Int) := by omega
    go_enter Try.func15, Try.ntmps15
    go_wp2_with fail
    go_ret
    have hl := HL.out
    exact ⟨by rw [HV.out, shortB, hl, decide_eq_false (by omega)]; rfl, ob⟩
  have h12i : ¬ (12 : Int) < (n : Int) := by omega
  go_enter Try.func15, Try.ntmps15
  go_wp2_with fail
  generalize w.alloc (.cells #[.int .i64 op, .int .u64 (cl : Int), .int .u64 (sq : Int), .int .i64 sh, .int .i64 sg, .int .u64 (ps : Int), .slice a n c] 27) = w1 at *
  have hall : (l.all fun x => decide (x.l.length ≤ 8)) = ((l.drop 0).all fun x => decide (x.l.length ≤ 8)) := rfl
  have HALL := Go.Lib.hid hall
  clear hall
  obtain ⟨c0, c1, c2, c3, c4, c5, c6, _⟩ := NB.rw7 r1
  go_loop [3] (fun x => ∃ k : Nat, k ≤ n ∧ x = .int .i64 (k : Int) ∧ (l.all fun x => decide (x.l.length ≤ 8)) = ((l.drop k).all fun x => decide (x.l.length ≤ 8))) (fun x => n - (intOf x).toNat)
  case atStart => exact ⟨0, by omega, rfl, HALL.out⟩
  case round =>
    clear HALL
    obtain ⟨k, hk, rfl, hq⟩ := hrel
    by_cases hlt : k < n
    case neg =>
      have hki : ¬ (k : Int) < (n : Int) := by omega
      have hl := HL.out
      rw [List.drop_of_length_le (by omega)] at hq
      have HQ := Go.Lib.hid hq
      clear hq hl
      go_wp2_with fail
      go_ret
      have hl := HL.out
      exact ⟨by rw [HV.out, shortB, hl, HQ.out, decide_eq_true (by omega)]; rfl, ob⟩
    have hki : (k : Int) < (n : Int) := by omega
    obtain ⟨b, o, x, rfl, hx, _, d1, rx⟩ := (h.below ob).at k hlt
    rw [drop_at hx, List.all_cons] at hq
    have hxl := NB.RdU.size rx
    have HQ := Go.Lib.hid hq; have HXL := Go.Lib.hid hxl
    clear hq hxl hx
    by_cases h8 : x.n ≤ 8
    · have h8i : ¬ (8 : Int) < (x.n : Int) := by omega
      go_wp2_with fail
      go_round
      case rel => exact ⟨k + 1, by omega, by go_num, by rw [HQ.out, decide_eq_true (by have := HXL.out; omega), Bool.true_and]⟩
      case measure => simp [intOf]; omega
    · have h8i : (8 : Int) < (x.n : Int) := by omega
      go_wp2_with fail
      go_ret
      have hl := HL.out
      exact ⟨by rw [HV.out, shortB, HQ.out, decide_eq_false (p := x.l.length ≤ 8) (by have := HXL.out; omega), Bool.false_and, Bool.and_false]; rfl, ob⟩
end Go.Proofs.Ytnkmlopgfgdajaa
