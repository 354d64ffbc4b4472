/- The function Put of conf. -/
import Derived.Test.YtnkmlopgfgdajaaCfc
import Derived.Test.YtnkmlopgfgdajaaNuma
namespace Go.Proofs.Ytnkmlopgfgdajaa
open Go.RowKit
open Go.NB (Rd RdU oneB dB Rw Kp Stp encU)

/-- Bytes and an error, in new memory. -/
def BytE (w : World) (r : List UInt8 × Int) (e : Ending) (w' : World) : Prop :=
  ∃ a c, e = .returned (.tuple #[.slice a r.1.length c, .int .i64 r.2]) ∧ NB.OwnB w' w.heap.size 5 (.slice a r.1.length c) r.1 ∧ Below w.heap.size w w'

def putS (b : Bool) (bs : List UInt8) (x : Nat) : List UInt8 := bs ++ (if b = true then encU x else [])
theorem putS_len (b : Bool) (bs : List UInt8) (x : Nat) (hx : x < 18446744073709551616) : (putS b bs x).length ≤ bs.length + 9 := by
  have := NB.encU_len hx
  unfold putS
  rw [List.length_append]
  split <;> simp <;> omega

set_option maxHeartbeats 1000000 in
theorem put1_any (w : World) (base p : Nat) (F : Nat → Prop) (bs : List UInt8) (g : Nat) (b : Bool) (x : Nat) (hx : x < 18446744073709551616) (h : HasW w base p F bs) (hc : w.cell? ⟨g, 0, none⟩ = some (.pointer (some ⟨p, 0, none⟩))) (hs : bs.length ≤ 1000000) :
    Calls Try.prog 35 #[.bool b, .int .u64 (x : Int), .pointer (some ⟨g, 0, none⟩)] w (PutW w base p F (putS b bs x)) := by
  cases b with
  | false =>
    go_enter Try.func35, Try.ntmps35
    go_wp2
    go_end0
    exact ⟨rfl, F, by simpa [putS] using h, Stp.refl _ _⟩
  | true =>
    go_enter Try.func35, Try.ntmps35
    go_wp2_with (go_at_call 36; refine (wuint_any _ base p F bs x hx h (by omega)).mono ?_; rintro e w1 ⟨rfl, F1, hW1, hS1⟩)
    go_end0
    exact ⟨rfl, F1, by simpa [putS] using hW1, hS1⟩

/-- What stands while a command is put. -/
structure PutI (w0 : World) (base p g0 g5 g6 : Nat) (v0 v6 : List Value) (F : Nat → Prop) (bs : List UInt8) (w : World) : Prop where
  hw : HasW w base p F bs
  r0 : Rw w g0 v0 27
  r5 : Rw w g5 [.pointer (some ⟨p, 0, none⟩)] 79
  r6 : Rw w g6 v6 62
  n0 : ¬ F g0
  n5 : ¬ F g5
  n6 : ¬ F g6
  hb : w0.heap.size ≤ base
  bel : Below w0.heap.size w0 w
theorem PutI.step {w0 : World} {base p g0 g5 g6 : Nat} {v0 v6 : List Value} {F F' : Nat → Prop} {bs bs' : List UInt8} {w w' : World} (h : PutI w0 base p g0 g5 g6 v0 v6 F bs w) (hW : HasW w' base p F' bs') (hS : Stp F F' w w') : PutI w0 base p g0 g5 g6 v0 v6 F' bs' w' where
  hw := hW
  r0 := h.r0.keep hS.kp h.n0
  r5 := h.r5.keep hS.kp h.n5
  r6 := h.r6.keep hS.kp h.n6
  n0 := fun hf => (hS.sub _ hf).elim h.n0 (fun hh => by have := h.r0.lt; omega)
  n5 := fun hf => (hS.sub _ hf).elim h.n5 (fun hh => by have := h.r5.lt; omega)
  n6 := fun hf => (hS.sub _ hf).elim h.n6 (fun hh => by have := h.r6.lt; omega)
  hb := h.hb
  bel := NB.bel h.bel (h.hw.low hS) h.hb
theorem PutI.below {w0 : World} {base p g0 g5 g6 : Nat} {v0 v6 : List Value} {F : Nat → Prop} {bs : List UInt8} {w w' : World} (h : PutI w0 base p g0 g5 g6 v0 v6 F bs w) (hb : Below w.heap.size w w') : PutI w0 base p g0 g5 g6 v0 v6 F bs w' where
  hw := h.hw.below hb
  r0 := h.r0.below hb
  r5 := h.r5.below hb
  r6 := h.r6.below hb
  n0 := h.n0
  n5 := h.n5
  n6 := h.n6
  hb := h.hb
  bel := NB.bel h.bel hb h.bel.size

/-- Which fields the op has, and what is put of them. -/
theorem of_puts (k : Nat) (hk : k ≤ 4) : ∃ b0 b1 b2 b3 b4 : Bool, ofV k = .agg #[.bool b0, .bool b1, .bool b2, .bool b3, .bool b4] ∧
    ∀ (cl sq : Nat) (sh sg ps : Nat) (l : List Iw), okF k (cmOf (k : Int) cl sq sh sg ps l) →
      putS b4 (putS b3 (putS b2 (putS b1 (putS b0 (putS b0 [UInt8.ofNat k] cl) sq) sh) sg) ps) l.length ++ l.flatMap (fun x => encR (rlOf x)) = putL (cmOf (k : Int) cl sq sh sg ps l) := by
  have hrows : ∀ l : List Iw, (l.map rlOf).flatMap encR = l.flatMap (fun x => encR (rlOf x)) := fun l => by simp [List.flatMap_map]
  have h5 : k = 0 ∨ k = 1 ∨ k = 2 ∨ k = 3 ∨ k = 4 := by omega
  rcases h5 with rfl | rfl | rfl | rfl | rfl
  · refine ⟨false, false, false, false, false, rfl, fun cl sq sh sg ps l h => ?_⟩
    have hl : l = [] := by
      have : (cmOf ((0 : Nat) : Int) cl sq sh sg ps l).rows = [] := by rw [show cmOf ((0 : Nat) : Int) cl sq sh sg ps l = cm0 from h]; rfl
      simpa [cmOf] using this
    subst hl
    rfl
  · refine ⟨true, true, true, false, false, rfl, fun cl sq sh sg ps l h => ?_⟩
    have hl : l = [] := by simpa [cmOf] using h.2.2.2.2.2.2
    subst hl
    simp [putS, putL, encF, cmOf]
  · refine ⟨true, true, false, false, true, rfl, fun cl sq sh sg ps l h => ?_⟩
    simp [putS, putL, encF, cmOf, encRs, hrows]
  · refine ⟨true, false, false, true, false, rfl, fun cl sq sh sg ps l h => ?_⟩
    have hl : l = [] := by simpa [cmOf] using h.2.2.2.2.2.2
    subst hl
    simp [putS, putL, encF, cmOf]
  · refine ⟨false, false, false, false, true, rfl, fun cl sq sh sg ps l h => ?_⟩
    simp [putS, putL, encF, cmOf, encRs, hrows]

theorem take_flat {α : Type} (f : α → List UInt8) (l : List α) (k : Nat) (x : α) (h : l[k]? = some x) : (l.take (k + 1)).flatMap f = (l.take k).flatMap f ++ f x := by
  rw [List.take_add_one, h]; simp

set_option maxHeartbeats 2000000 in
theorem cput_no (w : World) (op sh sg : Int) (cl sq ps n c : Nat) (a : Option Addr) (l : List Iw) (h : RdW w a n c l) (hno : checkB (cmOf op cl sq sh sg ps l) = false) :
    Calls Try.prog 16 #[.agg #[.int .i64 op, .int .u64 (cl : Int), .int .u64 (sq : Int), .int .i64 sh, .int .i64 sg, .int .u64 (ps : Int), .slice a n c]] w
      (BytE w (putM (cmOf op cl sq sh sg ps l))) := by
  have hq : putM (cmOf op cl sq sh sg ps l) = ([], 1) := by unfold putM; rw [hno]; rfl
  rw [hq]
  have hck : checkM (cmOf op cl sq sh sg ps l) = 1 := by unfold checkM; rw [hno]; rfl
  have cc := fun w hh => check_any w op sh sg cl sq ps n c a l hh
  rw [hck] at cc
  have ob := oneB w (.cells #[.int .i64 op, .int .u64 (cl : Int), .int .u64 (sq : Int), .int .i64 sh, .int .i64 sg, .int .u64 (ps : Int), .slice a n c] 27)
  have h1 := h.below ob
  have CC := Go.Lib.hid cc
  clear hno hq hck cc
  go_enter Try.func16, Try.ntmps16
  go_wp2_with (go_at_call 18; refine (CC.out _ h1).mono ?_; rintro e w2 ⟨rfl, hb2⟩)
  go_ret2
  exact ⟨none, 0, rfl, World.ownsRow_nil _ _ _ _, NB.bel ob hb2 ob.size⟩

set_option maxRecDepth 100000 in
set_option maxHeartbeats 8000000 in
theorem cput_yes (w : World) (k sh sg : Nat) (cl sq ps n c : Nat) (a : Option Addr) (l : List Iw) (h : RdW w a n c l) (hyes : checkB (cmOf (k : Int) cl sq sh sg ps l) = true)
    (hcl : cl < 18446744073709551616) (hsq : sq < 18446744073709551616) (hsh : sh < 8) (hsg : sg < 5) (hps : ps < 18446744073709551616) :
    Calls Try.prog 16 #[.agg #[.int .i64 (k : Int), .int .u64 (cl : Int), .int .u64 (sq : Int), .int .i64 (sh : Int), .int .i64 (sg : Int), .int .u64 (ps : Int), .slice a n c]] w
      (BytE w (putL (cmOf (k : Int) cl sq sh sg ps l), 0)) := by
  have hwf : WfC (cmOf (k : Int) cl sq sh sg ps l) := ⟨hcl, hsq, hps, fun r hr => by
    obtain ⟨x, hx, rfl⟩ := List.mem_map.1 hr
    exact (h.it x hx).2⟩
  obtain ⟨hk4, _, hokf⟩ := okF_of hyes hwf
  have hk4 : k ≤ 4 := by simpa [cmOf] using hk4
  have hokf : okF k (cmOf (k : Int) cl sq sh sg ps l) := by simpa [cmOf] using hokf
  obtain ⟨b0, b1, b2, b3, b4, hof, hputs⟩ := of_puts k hk4
  have hput := hputs cl sq sh sg ps l hokf
  have hck : checkM (cmOf (k : Int) cl sq sh sg ps l) = 0 := by unfold checkM; rw [hyes]; rfl
  have cc := fun w hh => check_any w (k : Int) sh sg cl sq ps n c a l hh
  rw [hck] at cc
  have co := fun w => of_any w k hk4
  rw [hof] at co
  have hrw : ∀ (j : Nat) (x : Iw), l[j]? = some x → (0 ≤ x.s ∧ x.s < 8) ∧ x.l.length < 5 := fun j x hx => by
    simp only [checkB, Bool.and_eq_true] at hyes
    exact (rowsOk_all (-1) _ (by omega) (by omega) hyes.1).2 (rlOf x) (List.mem_map.2 ⟨x, List.mem_of_getElem? hx, rfl⟩)
  have hn9 : n ≤ 8 := by
    simp only [checkB, Bool.and_eq_true] at hyes
    have := (rowsOk_all (-1) _ (by omega) (by omega) hyes.1).1
    have hl := h.len
    simp [cmOf] at this
    omega
  rw [← hput]
  rw [h.len]
  obtain ⟨S, hS⟩ : ∃ S, S = (putS b4 (putS b3 (putS b2 (putS b1 (putS b0 (putS b0 [UInt8.ofNat k] cl) sq) sh) sg) ps) n) := ⟨_, rfl⟩
  rw [← hS]
  have HS := Go.Lib.hid hS
  clear hS
  have hbd := Rd.bound h.rd
  have CC := Go.Lib.hid cc; have CO := Go.Lib.hid co; have HRW := Go.Lib.hid hrw; have HLN := Go.Lib.hid h.len
  have ob := oneB w (.cells #[.int .i64 (k : Int), .int .u64 (cl : Int), .int .u64 (sq : Int), .int .i64 (sh : Int), .int .i64 (sg : Int), .int .u64 (ps : Int), .slice a n c] 27)
  have r0 := NB.rw_new w [.int .i64 (k : Int), .int .u64 (cl : Int), .int .u64 (sq : Int), .int .i64 (sh : Int), .int .i64 (sg : Int), .int .u64 (ps : Int), .slice a n c] 27 rfl
  simp only [List.toArray] at r0
  have h1 := h.below ob
  have hk4i : (k : Int) ≤ 4 := by omega
  clear hyes hokf hputs hput hck cc co hrw hof hwf
  go_enter Try.func16, Try.ntmps16
  go_wp2_with fail
  refine (CC.out _ h1).mono ?_
  rintro e w2 ⟨rfl, hb2⟩
  have r02 := r0.below hb2
  have B2 := NB.bel ob hb2 ob.size
  clear CC r0 h1 ob hb2
  go_wp2_with fail
  refine (wnew_any _).mono ?_
  rintro e w3 ⟨p, F3, rfl, hW3, hb3⟩
  have B3 := NB.bel B2 hb3 B2.size
  have r03 := r02.below hb3
  have hbase : w.heap.size ≤ w2.heap.size := B2.size
  have hg0 : w.heap.size < w2.heap.size := r02.lt
  have nf0 : ¬ F3 w.heap.size := fun hf => by have := (hW3.foot _ hf).1; omega
  have hF3 : ∀ k, F3 k → k < w3.heap.size := fun k hf => (hW3.foot k hf).2
  clear r02 B2 hb3
  generalize w2.heap.size = base at *
  have ob5 := oneB w3 (.cells #[.pointer (some ⟨p, 0, none⟩)] 79)
  have r5 := NB.rw_new w3 [.pointer (some ⟨p, 0, none⟩)] 79 rfl
  simp only [List.toArray] at r5
  have hW4 := hW3.below ob5
  have r04 := r03.below ob5
  have B4 := NB.bel B3 ob5 B3.size
  have n5 : ¬ F3 w3.heap.size := fun hf => by have := hF3 _ hf; omega
  clear hW3 r03 B3 ob5 hF3
  obtain ⟨c0, _⟩ := NB.rw7 r04
  have p0 := (NB.rw1 r5).1
  have hk8 : ((UInt8.ofNat k).toNat : Int) = (k : Int) := by rw [UInt8.toNat_ofNat']; omega
  have m1 : (1 : Nat) ≤ maxLen := by unfold maxLen; omega
  go_wp2_with fail
  have hsz4 : (w3.alloc (.cells #[.pointer (some ⟨p, 0, none⟩)] 79)).heap.size = w3.heap.size + 1 := by simp
  generalize w3.alloc (.cells #[.pointer (some ⟨p, 0, none⟩)] 79) = w4 at *
  generalize w3.heap.size = g5 at *
  have rb := NB.rdB_lit (w := w4) (fr := (0, 0)) (t := 5) [UInt8.ofNat k] (cs := #[.int .u8 (k : Int)]) (by rw [← hk8]; rfl) rfl m1 hsz4.symm
  clear hsz4
  have ob := oneB w4 (.cells #[.int .u8 (k : Int)] 5)
  refine (wraw_any _ base p F3 [] _ 1 1 [UInt8.ofNat k] (hW4.below ob) rb (by simp)).mono ?_
  rintro e w5 ⟨rfl, F5, hW5, hS5⟩
  have r05 := (r04.below ob).keep hS5.kp nf0
  have r55 := (r5.below ob).keep hS5.kp n5
  have n05 : ¬ F5 w.heap.size := fun hf => (hS5.sub _ hf).elim nf0 (fun hh => by have := r04.lt; have := ob.size; omega)
  have n55 : ¬ F5 g5 := fun hf => (hS5.sub _ hf).elim n5 (fun hh => by have := r5.lt; have := ob.size; omega)
  have B5 := NB.bel (NB.bel B4 ob B4.size) ((hW4.below ob).low hS5) hbase
  clear r04 r5 hW4 rb ob hS5 B4 c0 p0 nf0 n5 hk8 m1
  obtain ⟨c0, _⟩ := NB.rw7 r05
  go_wp2_with fail
  refine (CO.out _).mono ?_
  rintro e w6 ⟨rfl, hb6⟩
  have ob := oneB w6 (.cells #[.bool b0, .bool b1, .bool b2, .bool b3, .bool b4] 62)
  have r6 := NB.rw_new w6 [.bool b0, .bool b1, .bool b2, .bool b3, .bool b4] 62 rfl
  simp only [List.toArray] at r6
  have n6 : ¬ F5 w6.heap.size := fun hf => by have := (hW5.foot _ hf).2; have := hb6.size; omega
  have I := (⟨(hW5.below hb6).below ob, (r05.below hb6).below ob, (r55.below hb6).below ob, r6, n05, n55, n6, hbase, NB.bel (NB.bel B5 hb6 B5.size) ob (Nat.le_trans B5.size hb6.size)⟩ : PutI w base p w.heap.size g5 w6.heap.size [.int .i64 (k : Int), .int .u64 (cl : Int), .int .u64 (sq : Int), .int .i64 (sh : Int), .int .i64 (sg : Int), .int .u64 (ps : Int), .slice a n c] [.bool b0, .bool b1, .bool b2, .bool b3, .bool b4] F5 ([] ++ [UInt8.ofNat k]) _)
  rw [List.nil_append] at I
  clear hW5 r05 r55 r6 n05 n55 n6 hb6 ob B5 c0 CO
  have hL : ([UInt8.ofNat k] : List UInt8).length ≤ 1 := by simp
  obtain ⟨c0, c1, c2, c3, c4, c5, c6, _⟩ := NB.rw7 I.r0
  obtain ⟨d0, d1, d2, d3, d4, _⟩ := NB.rw5 I.r6
  have p0 := (NB.rw1 I.r5).1
  go_wp2_with fail
  generalize w6.alloc (.cells #[.bool b0, .bool b1, .bool b2, .bool b3, .bool b4] 62) = w6b at *
  generalize w6.heap.size = g6 at *
  refine (put1_any _ base p F5 _ g5 b0 cl hcl I.hw p0 (by omega)).mono ?_
  rintro e w7 ⟨rfl, G0, hWn, hSn⟩
  have I2 := I.step hWn hSn
  have hL2 := Nat.le_trans (putS_len b0 _ cl hcl) (Nat.add_le_add_right hL 9)
  clear I hWn hSn hL c0 c1 c2 c3 c4 c5 c6 d0 d1 d2 d3 d4 p0
  have I := I2; have hL := hL2
  clear I2 hL2
  obtain ⟨c0, c1, c2, c3, c4, c5, c6, _⟩ := NB.rw7 I.r0
  obtain ⟨d0, d1, d2, d3, d4, _⟩ := NB.rw5 I.r6
  have p0 := (NB.rw1 I.r5).1
  go_wp2_with fail
  refine (put1_any _ base p G0 _ g5 b0 sq hsq I.hw p0 (by omega)).mono ?_
  rintro e w8 ⟨rfl, G1, hWn, hSn⟩
  have I2 := I.step hWn hSn
  have hL2 := Nat.le_trans (putS_len b0 _ sq hsq) (Nat.add_le_add_right hL 9)
  clear I hWn hSn hL c0 c1 c2 c3 c4 c5 c6 d0 d1 d2 d3 d4 p0
  have I := I2; have hL := hL2
  clear I2 hL2
  obtain ⟨c0, c1, c2, c3, c4, c5, c6, _⟩ := NB.rw7 I.r0
  obtain ⟨d0, d1, d2, d3, d4, _⟩ := NB.rw5 I.r6
  have p0 := (NB.rw1 I.r5).1
  go_wp2_with fail
  refine (put1_any _ base p G1 _ g5 b1 sh (by omega) I.hw p0 (by omega)).mono ?_
  rintro e w9 ⟨rfl, G2, hWn, hSn⟩
  have I2 := I.step hWn hSn
  have hL2 := Nat.le_trans (putS_len b1 _ sh (by omega)) (Nat.add_le_add_right hL 9)
  clear I hWn hSn hL c0 c1 c2 c3 c4 c5 c6 d0 d1 d2 d3 d4 p0
  have I := I2; have hL := hL2
  clear I2 hL2
  obtain ⟨c0, c1, c2, c3, c4, c5, c6, _⟩ := NB.rw7 I.r0
  obtain ⟨d0, d1, d2, d3, d4, _⟩ := NB.rw5 I.r6
  have p0 := (NB.rw1 I.r5).1
  go_wp2_with fail
  refine (put1_any _ base p G2 _ g5 b2 sg (by omega) I.hw p0 (by omega)).mono ?_
  rintro e w10 ⟨rfl, G3, hWn, hSn⟩
  have I2 := I.step hWn hSn
  have hL2 := Nat.le_trans (putS_len b2 _ sg (by omega)) (Nat.add_le_add_right hL 9)
  clear I hWn hSn hL c0 c1 c2 c3 c4 c5 c6 d0 d1 d2 d3 d4 p0
  have I := I2; have hL := hL2
  clear I2 hL2
  obtain ⟨c0, c1, c2, c3, c4, c5, c6, _⟩ := NB.rw7 I.r0
  obtain ⟨d0, d1, d2, d3, d4, _⟩ := NB.rw5 I.r6
  have p0 := (NB.rw1 I.r5).1
  go_wp2_with fail
  refine (put1_any _ base p G3 _ g5 b3 ps hps I.hw p0 (by omega)).mono ?_
  rintro e w11 ⟨rfl, G4, hWn, hSn⟩
  have I2 := I.step hWn hSn
  have hL2 := Nat.le_trans (putS_len b3 _ ps hps) (Nat.add_le_add_right hL 9)
  clear I hWn hSn hL c0 c1 c2 c3 c4 c5 c6 d0 d1 d2 d3 d4 p0
  have I := I2; have hL := hL2
  clear I2 hL2
  obtain ⟨c0, c1, c2, c3, c4, c5, c6, _⟩ := NB.rw7 I.r0
  obtain ⟨d0, d1, d2, d3, d4, _⟩ := NB.rw5 I.r6
  have p0 := (NB.rw1 I.r5).1
  go_wp2_with fail
  refine (put1_any _ base p G4 _ g5 b4 n (by omega) I.hw p0 (by omega)).mono ?_
  rintro e w12 ⟨rfl, F6, hWn, hSn⟩
  have I2 := I.step hWn hSn
  have hL2 := Nat.le_trans (putS_len b4 _ n (by omega)) (Nat.add_le_add_right hL 9)
  clear I hWn hSn hL c0 c1 c2 c3 c4 c5 c6 d0 d1 d2 d3 d4 p0
  have I := I2; have hL := hL2
  clear I2 hL2
  obtain ⟨c0, c1, c2, c3, c4, c5, c6, _⟩ := NB.rw7 I.r0
  rw [← HS.out] at I hL
  go_wp2_with fail
  clear c0 c1 c2 c3 c4 c5 c6
  have I7 : ∃ v0 v6, PutI w base p w.heap.size g5 g6 v0 v6 F6 S w12 := ⟨_, _, I⟩
  clear I
  obtain ⟨v0, v6, I⟩ := I7
  go_loopw [71] (fun x wr => ∃ (j : Nat) (F : Nat → Prop), j ≤ n ∧ x = .int .i64 (j : Int) ∧ PutI w base p w.heap.size g5 g6 v0 v6 F (S ++ (l.take j).flatMap (fun x => encR (rlOf x))) wr ∧ (S ++ (l.take j).flatMap (fun x => encR (rlOf x))).length ≤ 64 + 60 * j) (fun x _ => n - (intOf x).toNat)
  case atStart => exact ⟨0, F6, by omega, rfl, by simpa using I, by simp; omega⟩
  case round =>
    clear I
    obtain ⟨j, F, hj, rfl, I, hlen⟩ := hrel
    by_cases hlt : j < n
    case neg =>
      have hji : ¬ (j : Int) < (n : Int) := by omega
      rw [List.take_of_length_le (by have := HLN.out; omega)] at I hlen
      obtain ⟨BS, hBS⟩ : ∃ BS, BS = S ++ l.flatMap (fun x => encR (rlOf x)) := ⟨_, rfl⟩
      rw [← hBS] at I hlen
      have HBS := Go.Lib.hid hBS
      clear hBS
      have p0 := (NB.rw1 I.r5).1
      go_wp2_with fail
      refine (wout_any _ base p F BS I.hw (by omega)).mono ?_
      rintro e w9 ⟨a9, c9, rfl, ho9, hb9⟩
      have hB := NB.bel I.bel hb9 I.bel.size
      have hO := NB.own_mono ho9 I.bel.size
      clear I p0
      go_wp2_with fail
      go_ret2
      have hE := HBS.out
      subst hE
      exact ⟨a9, c9, rfl, hO, hB⟩
    have hji : (j : Int) < (n : Int) := by omega
    obtain ⟨b, o, x, rfl, hx, q0, q1, _⟩ := (h.below I.bel).at j hlt
    have rx := h.it x (List.mem_of_getElem? hx)
    obtain ⟨⟨hs0, hs8⟩, hl5⟩ := HRW.out j x hx
    have htk := take_flat (fun x => encR (rlOf x)) l j x hx
    obtain ⟨xs, xa, xn, xc, xl⟩ := x
    simp only at hs0 hs8 hl5 rx q0 q1 htk
    obtain ⟨s, rfl⟩ := Int.eq_ofNat_of_zero_le hs0
    have hxl := NB.RdU.size rx
    have hbx := Rd.bound rx.1
    have HTK := Go.Lib.hid htk; have HXL := Go.Lib.hid hxl
    have hxn : xn ≤ 4 := by omega
    clear htk hxl hx hl5 hs0
    obtain ⟨BS, hBS⟩ : ∃ BS, BS = S ++ (l.take j).flatMap (fun x => encR (rlOf x)) := ⟨_, rfl⟩
    rw [← hBS] at I hlen
    have HBS := Go.Lib.hid hBS
    clear hBS
    have r9 := NB.rw_new wr [.int .i64 (s : Int), .slice xa xn xc] 50 rfl
    have ob := oneB wr (.cells #[.int .i64 (s : Int), .slice xa xn xc] 50)
    simp only [List.toArray] at r9
    have n9 : ¬ F wr.heap.size := fun hf => by have := (I.hw.foot _ hf).2; omega
    have I1 := I.below ob
    have hsn : s < 18446744073709551616 := by omega
    have hxm : xn < 18446744073709551616 := by omega
    have hs9 := NB.encU_len hsn
    have hx9 := NB.encU_len hxm
    have s0i : (0 : Int) ≤ (s : Int) := by omega
    have s8i : (s : Int) < 8 := by omega
    have p0 := (NB.rw1 I1.r5).1
    obtain ⟨d0, d1, _⟩ := NB.rw2 r9
    clear I ob
    go_wp2_with fail
    generalize wr.alloc (.cells #[.int .i64 (s : Int), .slice xa xn xc] 50) = w1 at *
    generalize wr.heap.size = g9 at *
    refine (wuint_any _ base p F BS s hsn I1.hw (by omega)).mono ?_
    rintro e w2 ⟨rfl, F2, hW2, hS2⟩
    have I2 := I1.step hW2 hS2
    have r92 := r9.keep hS2.kp n9
    have n92 : ¬ F2 g9 := fun hf => (hS2.sub _ hf).elim n9 (fun hh => by have := r9.lt; omega)
    clear I1 hW2 hS2 r9 n9 p0 d0 d1
    have p0 := (NB.rw1 I2.r5).1
    obtain ⟨d0, d1, _⟩ := NB.rw2 r92
    go_wp2_with fail
    refine (wuint_any _ base p F2 (BS ++ encU s) xn hxm I2.hw (by rw [List.length_append]; omega)).mono ?_
    rintro e w3 ⟨rfl, F3, hW3, hS3⟩
    have I3 := I2.step hW3 hS3
    have r93 := r92.keep hS3.kp n92
    clear I2 hW3 hS3 r92 n92 p0 d0 d1
    obtain ⟨d0, d1, _⟩ := NB.rw2 r93
    have hlB : (BS ++ encU s ++ encU xn).length ≤ 64 + 60 * j + 18 := by rw [List.length_append, List.length_append]; omega
    have hj8 : j ≤ 8 := by omega
    go_wp2_with fail
    clear d0 d1 r93 q0 q1
    obtain ⟨B3, hB3⟩ : ∃ B3, B3 = BS ++ encU s ++ encU xn := ⟨_, rfl⟩
    rw [← hB3] at I3 hlB
    have HB3 := Go.Lib.hid hB3
    clear hB3
    go_loopw [89] (fun y wi => ∃ (i : Nat) (F' : Nat → Prop), i ≤ xn ∧ y = .int .i64 (i : Int) ∧ PutI w base p w.heap.size g5 g6 v0 v6 F' (B3 ++ (xl.take i).flatMap encU) wi ∧ (B3 ++ (xl.take i).flatMap encU).length ≤ 64 + 60 * j + 18 + 9 * i) (fun y _ => xn - (intOf y).toNat)
    case atStart => exact ⟨0, F3, by omega, rfl, by simpa using I3, by simpa using hlB⟩
    case round =>
      clear I3
      obtain ⟨i, F4, hi, rfl, I4, hlen4⟩ := hrel
      by_cases hil : i < xn
      case neg =>
        have hii : ¬ (i : Int) < (xn : Int) := by omega
        have hxl := HXL.out
        rw [List.take_of_length_le (by omega)] at I4 hlen4
        have heq : B3 ++ xl.flatMap encU = S ++ (l.take (j + 1)).flatMap (fun x => encR (rlOf x)) := by
          rw [HTK.out, HB3.out, ← List.append_assoc, HBS.out]
          simp [encR, rlOf, hxl]
        rw [heq] at I4 hlen4
        have HEQ := Go.Lib.hid heq
        clear heq hxl
        go_wp2_with fail
        go_roundw
        case rel => exact ⟨j + 1, F4, by omega, by go_num, I4, by omega⟩
        case measure => simp [intOf]; omega
      have hii : (i : Int) < (xn : Int) := by omega
      obtain ⟨b2, o2, hc2, rfl⟩ := NB.RdU.at (rx.below I4.bel) i hil
      have hy64 : xl.getD i 0 < 18446744073709551616 := by
        have hxl := HXL.out
        rw [List.getD_eq_getElem?_getD, List.getElem?_eq_getElem (by omega)]
        exact rx.2 _ (List.getElem_mem _)
      have htk2 := take_flat encU xl i (xl.getD i 0) (by
        have hxl := HXL.out
        rw [List.getD_eq_getElem?_getD, List.getElem?_eq_getElem (by omega)]; rfl)
      have HTK2 := Go.Lib.hid htk2
      clear htk2
      generalize xl.getD i 0 = y at *
      have hy9 := NB.encU_len hy64
      have p0 := (NB.rw1 I4.r5).1
      go_wp2_with fail
      refine (wuint_any _ base p F4 _ y hy64 I4.hw (by omega)).mono ?_
      rintro e w5 ⟨rfl, F5, hW5, hS5⟩
      have I5 := I4.step hW5 hS5
      clear I4 hW5 hS5 p0 hc2
      go_wp2_with fail
      go_roundw
      case rel => exact ⟨i + 1, F5, by omega, by go_num, by rw [HTK2.out, ← List.append_assoc]; exact I5, by rw [HTK2.out, ← List.append_assoc, List.length_append]; omega⟩
      case measure => simp [intOf]; omega
end Go.Proofs.Ytnkmlopgfgdajaa

