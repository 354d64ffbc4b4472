/- The cell's Open, walked. -/
import Derived.Test.YtcdapjfaekamkaaCelf
namespace Go.Proofs.Ytcdapjfaekamkaa
open Go.RowKit
open Go.NB (Rd Dk Kp Stp Off Dis val Ce footC)

set_option maxRecDepth 100000 in
theorem open_nil (w : World) (i : Int) : Calls Try.prog 10 #[.pointer none, .int .i64 i] w fun e w' => e = .returned (.tuple #[.pointer none, .int .i64 1]) ∧ Below w.heap.size w w' := by
  go_enter Try.func10, Try.ntmps10
  go_wp2_with fail
  have q0 : ((w.alloc (.cells #[.pointer none] 25)).alloc (.cells #[.int .i64 i] 3)).cell? ⟨w.heap.size, 0, none⟩ = some (.pointer none) := by go_simp
  have q1 : ((w.alloc (.cells #[.pointer none] 25)).alloc (.cells #[.int .i64 i] 3)).cell? ⟨w.heap.size + 1, 0, none⟩ = some (.int .i64 i) := by go_simp
  have hb0 : Below w.heap.size w ((w.alloc (.cells #[.pointer none] 25)).alloc (.cells #[.int .i64 i] 3)) := ((Below.refl _ w).alloc (Nat.le_refl _) _).alloc (by simp) _
  have hz : ((w.alloc (.cells #[.pointer none] 25)).alloc (.cells #[.int .i64 i] 3)).heap.size = w.heap.size + 2 := by simp
  generalize ((w.alloc (.cells #[.pointer none] 25)).alloc (.cells #[.int .i64 i] 3)) = w1 at *
  refine NB.wp_region_m (by kernel_rfl) ?_
  have hb1 := hb0.trans ((Below.refl _ w1).drew.mono hb0.size)
  replace q0 := (Below.cell (Below.refl _ w1).drew (World.block_lt_of_cell? _ _ q0)).trans q0
  replace q1 := (Below.cell (Below.refl _ w1).drew (World.block_lt_of_cell? _ _ q1)).trans q1
  replace hz : w1.drew.heap.size = w.heap.size + 2 := hz
  clear hb0
  generalize w1.drew = w2 at *
  refine NB.any_r 0 rfl (by kernel_rfl) rfl _ (fun w' hw' => NB.run_op_load rfl rfl Try.underlying25 rfl (q0) hw') (fun K hK => ?_); go_simp; refine hK _ ?_; clear hK K
  refine NB.any_p 1 rfl (by kernel_rfl) (fun K hK => ?_); go_simp; refine hK _ ?_; clear hK K
  refine NB.any_p 2 rfl (by kernel_rfl) (fun K hK => ?_); go_simp; refine hK _ ?_; clear hK K
  refine NB.any_p 3 rfl (by kernel_rfl) (fun K hK => ?_); go_simp; refine hK _ ?_; clear hK K
  refine NB.any_p 4 rfl (by kernel_rfl) (fun K hK => ?_); go_simp; refine hK _ ?_; clear hK K
  refine NB.any_p 5 rfl (by kernel_rfl) (fun K hK => ?_); go_simp; refine hK _ ?_; clear hK K
  refine NB.any_p 6 rfl (by kernel_rfl) (fun K hK => ?_); go_simp; refine hK _ ?_; clear hK K
  refine NB.any_p 7 rfl (by kernel_rfl) (fun K hK => ?_); go_simp; refine hK _ ?_; clear hK K
  refine NB.any_p 8 rfl (by kernel_rfl) (fun K hK => ?_); go_simp; refine hK _ ?_; clear hK K
  refine NB.any_e 9 rfl (by kernel_rfl) (fun K hK => ?_); go_simp; refine hK _ _ ?_; clear hK K
  refine NB.any_p 10 rfl (by kernel_rfl) (fun K hK => ?_); go_simp; refine hK _ ?_; clear hK K
  refine NB.any_p 11 rfl (by kernel_rfl) (fun K hK => ?_); go_simp; refine hK _ ?_; clear hK K
  refine NB.any_p 12 rfl (by kernel_rfl) (fun K hK => ?_); go_simp; refine hK _ ?_; clear hK K
  refine NB.any_end (by kernel_rfl) ?_
  go_wp2_with fail
  go_ret2
  exact ⟨rfl, hb1⟩
set_option maxRecDepth 100000 in
theorem open_bad (w : World) (based p : Nat) (G : Nat → Prop) (D : Dk) (i : Int) (hD : HasD w based p G D) (h : i < 0 ∨ (D.l.length : Int) - 2 < i) : Calls Try.prog 10 #[.pointer (some ⟨p, 0, none⟩), .int .i64 i] w fun e w' => e = .returned (.tuple #[.pointer none, .int .i64 1]) ∧ Below w.heap.size w w' := by
  by_cases h0 : i < 0
  · go_enter Try.func10, Try.ntmps10
    go_wp2_with fail
    have q0 : ((w.alloc (.cells #[.pointer (some ⟨p, 0, none⟩)] 25)).alloc (.cells #[.int .i64 i] 3)).cell? ⟨w.heap.size, 0, none⟩ = some (.pointer (some ⟨p, 0, none⟩)) := by go_simp
    have q1 : ((w.alloc (.cells #[.pointer (some ⟨p, 0, none⟩)] 25)).alloc (.cells #[.int .i64 i] 3)).cell? ⟨w.heap.size + 1, 0, none⟩ = some (.int .i64 i) := by go_simp
    have hb0 : Below w.heap.size w ((w.alloc (.cells #[.pointer (some ⟨p, 0, none⟩)] 25)).alloc (.cells #[.int .i64 i] 3)) := ((Below.refl _ w).alloc (Nat.le_refl _) _).alloc (by simp) _
    have hz : ((w.alloc (.cells #[.pointer (some ⟨p, 0, none⟩)] 25)).alloc (.cells #[.int .i64 i] 3)).heap.size = w.heap.size + 2 := by simp
    generalize ((w.alloc (.cells #[.pointer (some ⟨p, 0, none⟩)] 25)).alloc (.cells #[.int .i64 i] 3)) = w1 at *
    refine NB.wp_region_m (by kernel_rfl) ?_
    have hb1 := hb0.trans ((Below.refl _ w1).drew.mono hb0.size)
    replace q0 := (Below.cell (Below.refl _ w1).drew (World.block_lt_of_cell? _ _ q0)).trans q0
    replace q1 := (Below.cell (Below.refl _ w1).drew (World.block_lt_of_cell? _ _ q1)).trans q1
    replace hz : w1.drew.heap.size = w.heap.size + 2 := hz
    clear hb0
    generalize w1.drew = w2 at *
    have hD1 := hD.below hb1
    refine NB.any_r 0 rfl (by kernel_rfl) rfl _ (fun w' hw' => NB.run_op_load rfl rfl Try.underlying25 rfl (q0) hw') (fun K hK => ?_); go_simp; refine hK _ ?_; clear hK K
    refine NB.any_p 1 rfl (by kernel_rfl) (fun K hK => ?_); go_simp; refine hK _ ?_; clear hK K
    refine NB.any_p 2 rfl (by kernel_rfl) (fun K hK => ?_); go_simp; refine hK _ ?_; clear hK K
    refine NB.any_r 3 rfl (by kernel_rfl) rfl _ (fun w' hw' => NB.run_op_load rfl rfl Try.underlying3 rfl (q1) hw') (fun K hK => ?_); go_simp; refine hK _ ?_; clear hK K
    refine NB.any_p 4 rfl (by kernel_rfl) (fun K hK => ?_); go_simp; refine hK _ ?_; clear hK K
    refine NB.any_p 5 rfl (by kernel_rfl) (fun K hK => ?_); go_simp; refine hK _ ?_; clear hK K
    refine NB.any_p 6 rfl (by kernel_rfl) (fun K hK => ?_); go_simp; refine hK _ ?_; clear hK K
    refine NB.any_p 7 rfl (by kernel_rfl) (fun K hK => ?_); go_simp; refine hK _ ?_; clear hK K
    refine NB.any_p 8 rfl (by kernel_rfl) (fun K hK => ?_); go_simp; refine hK _ ?_; clear hK K
    refine NB.any_e 9 rfl (by kernel_rfl) (fun K hK => ?_); go_simp; refine hK _ _ ?_; clear hK K
    refine NB.any_p 10 rfl (by kernel_rfl) (fun K hK => ?_); go_simp; refine hK _ ?_; clear hK K
    refine NB.any_p 11 rfl (by kernel_rfl) (fun K hK => ?_); go_simp; refine hK _ ?_; clear hK K
    refine NB.any_p 12 rfl (by kernel_rfl) (fun K hK => ?_); go_simp; refine hK _ ?_; clear hK K
    refine NB.any_end (by kernel_rfl) ?_
    go_wp2_with fail
    go_ret2
    exact ⟨rfl, hb1⟩
  · have hn : D.l.length ≤ 65536 := by
      obtain ⟨bl, vW, hd, _⟩ := hD
      exact hd.n
    have h2 : (D.l.length : Int) - 2 < i := by omega
    have h0d : decide (i < 0) = false := by simpa using h0
    have hw2 : IntKind.i64.wrap ((D.l.length : Int) - 2) = (D.l.length : Int) - 2 := by rw [IntKind.wrap_i64]; omega
    go_enter Try.func10, Try.ntmps10
    go_wp2_with fail
    have q0 : ((w.alloc (.cells #[.pointer (some ⟨p, 0, none⟩)] 25)).alloc (.cells #[.int .i64 i] 3)).cell? ⟨w.heap.size, 0, none⟩ = some (.pointer (some ⟨p, 0, none⟩)) := by go_simp
    have q1 : ((w.alloc (.cells #[.pointer (some ⟨p, 0, none⟩)] 25)).alloc (.cells #[.int .i64 i] 3)).cell? ⟨w.heap.size + 1, 0, none⟩ = some (.int .i64 i) := by go_simp
    have hb0 : Below w.heap.size w ((w.alloc (.cells #[.pointer (some ⟨p, 0, none⟩)] 25)).alloc (.cells #[.int .i64 i] 3)) := ((Below.refl _ w).alloc (Nat.le_refl _) _).alloc (by simp) _
    have hz : ((w.alloc (.cells #[.pointer (some ⟨p, 0, none⟩)] 25)).alloc (.cells #[.int .i64 i] 3)).heap.size = w.heap.size + 2 := by simp
    generalize ((w.alloc (.cells #[.pointer (some ⟨p, 0, none⟩)] 25)).alloc (.cells #[.int .i64 i] 3)) = w1 at *
    refine NB.wp_region_m (by kernel_rfl) ?_
    have hb1 := hb0.trans ((Below.refl _ w1).drew.mono hb0.size)
    replace q0 := (Below.cell (Below.refl _ w1).drew (World.block_lt_of_cell? _ _ q0)).trans q0
    replace q1 := (Below.cell (Below.refl _ w1).drew (World.block_lt_of_cell? _ _ q1)).trans q1
    replace hz : w1.drew.heap.size = w.heap.size + 2 := hz
    clear hb0
    generalize w1.drew = w2 at *
    have hD1 := hD.below hb1
    refine NB.any_r 0 rfl (by kernel_rfl) rfl _ (fun w' hw' => NB.run_op_load rfl rfl Try.underlying25 rfl (q0) hw') (fun K hK => ?_); go_simp; refine hK _ ?_; clear hK K
    refine NB.any_p 1 rfl (by kernel_rfl) (fun K hK => ?_); go_simp; refine hK _ ?_; clear hK K
    refine NB.any_p 2 rfl (by kernel_rfl) (fun K hK => ?_); go_simp; refine hK _ ?_; clear hK K
    refine NB.any_r 3 rfl (by kernel_rfl) rfl _ (fun w' hw' => NB.run_op_load rfl rfl Try.underlying3 rfl (q1) hw') (fun K hK => ?_); go_simp; refine hK _ ?_; clear hK K
    refine NB.any_p 4 rfl (by kernel_rfl) (fun K hK => ?_); go_simp; refine hK _ ?_; clear hK K
    refine NB.any_p 5 rfl (by kernel_rfl) (fun K hK => ?_); go_simp; refine hK _ ?_; clear hK K
    refine NB.any_p 6 rfl (by kernel_rfl) (fun K hK => ?_); go_simp; refine hK _ ?_; clear hK K
    refine NB.any_r 7 rfl (by kernel_rfl) rfl _ (fun w' hw' => NB.run_op_load rfl rfl Try.underlying3 rfl (q1) hw') (fun K hK => ?_); go_simp; refine hK _ ?_; clear hK K
    refine NB.any_r 8 rfl (by kernel_rfl) rfl _ (fun w' hw' => NB.run_op_load rfl rfl Try.underlying25 rfl (q0) hw') (fun K hK => ?_); go_simp; refine hK _ ?_; clear hK K
    refine NB.any_e 9 rfl (by kernel_rfl) (fun K hK => ?_); unfold NB.moves; go_simp; refine (dlen_any _ _ _ _ _ hD1).mono ?_; rintro e w' ⟨rfl, e2⟩; subst w'; refine ⟨_, rfl, Below.refl _ _, hK _ _ ?_⟩; clear hK K
    refine NB.any_p 10 rfl (by kernel_rfl) (fun K hK => ?_); go_simp; refine hK _ ?_; clear hK K
    refine NB.any_p 11 rfl (by kernel_rfl) (fun K hK => ?_); go_simp; refine hK _ ?_; clear hK K
    refine NB.any_p 12 rfl (by kernel_rfl) (fun K hK => ?_); go_simp; refine hK _ ?_; clear hK K
    refine NB.any_end (by kernel_rfl) ?_
    go_wp2_with fail
    go_ret2
    exact ⟨rfl, hb1⟩

theorem alloc2_first (w : World) (o o' : Obj) : ((w.alloc o).alloc o').heap[w.heap.size]? = some o := by
  show ((w.heap.push o).push o')[w.heap.size]? = some o
  simp [Array.getElem?_push]
theorem alloc2_size (w : World) (o o' : Obj) : ((w.alloc o).alloc o').heap.size = w.heap.size + 2 := by
  show ((w.heap.push o).push o').size = _
  simp
theorem Kp.cell {F : Nat → Prop} {w w' : World} (h : Kp F w w') {x : Addr} {v : Value} (hF : ¬ F x.block) (hv : w.cell? x = some v) : w'.cell? x = some v :=
  (World.cell?_of_block (w := w) (h.block x.block (World.block_lt_of_cell? _ _ hv) hF)).trans hv
/-- What is opened of a disk. -/
def openD (n : Nat) (D : Dk) : Ce := lookC (lookC ⟨n, -1, 0, 0, [], 0⟩ 0 (D.read ((n : Nat) : Int)).1) 1 (D.read ((n + 1 : Nat) : Int)).1
def stepC (n : Nat) (D : Dk) : Nat → Ce
  | 0 => ⟨n, -1, 0, 0, [], 0⟩
  | k + 1 => lookC (stepC n D k) k (D.read ((n + k : Nat) : Int)).1
theorem stepC_succ (n : Nat) (D : Dk) (k : Nat) : stepC n D (k + 1) = lookC (stepC n D k) k (D.read ((n + k : Nat) : Int)).1 := rfl
theorem stepC_at (n : Nat) (D : Dk) (k : Nat) : (stepC n D k).at_ = n := by
  induction k with
  | zero => rfl
  | succ k ih => rw [stepC_succ, (look_at _ _ _).1, ih]
def OpenedC (w : World) (p n : Nat) (D : Dk) (e : Ending) (w' : World) : Prop :=
  ∃ q F, e = .returned (.tuple #[.pointer (some ⟨q, 0, none⟩), .int .i64 0]) ∧ HasC w' w.heap.size q p F (openD n D) ∧ Below w.heap.size w w'
set_option maxRecDepth 100000 in
theorem open_any (w : World) (based p : Nat) (G : Nat → Prop) (D : Dk) (n : Nat) (hD : HasD w based p G D) (hn : n + 2 ≤ D.l.length) (hwn : D.waits.length ≤ 100000) (h0 : (D.read ((n : Nat) : Int)).2 = 0) (h1 : (D.read ((n + 1 : Nat) : Int)).2 = 0)
    (h64 : (D.read ((n : Nat) : Int)).1.length = 64) (h65 : (D.read ((n + 1 : Nat) : Int)).1.length = 64) :
    Calls Try.prog 10 #[.pointer (some ⟨p, 0, none⟩), .int .i64 (n : Int)] w (OpenedC w p n D) := by
  have hln : D.l.length ≤ 65536 := by
    obtain ⟨bl, vW, hd, _⟩ := hD
    exact hd.n
  have h64' := h64
  have h65' := h65
  clear h64 h65
  have hni : ¬ (n : Int) < 0 := by omega
  have hn2 : ¬ (D.l.length : Int) - 2 < (n : Int) := by omega
  have hw2 : IntKind.i64.wrap ((D.l.length : Int) - 2) = (D.l.length : Int) - 2 := by rw [IntKind.wrap_i64]; omega
  go_enter Try.func10, Try.ntmps10
  go_wp2_with fail
  have q0 : ((w.alloc (.cells #[.pointer (some ⟨p, 0, none⟩)] 25)).alloc (.cells #[.int .i64 (n : Int)] 3)).cell? ⟨w.heap.size, 0, none⟩ = some (.pointer (some ⟨p, 0, none⟩)) := by go_simp
  have q1 : ((w.alloc (.cells #[.pointer (some ⟨p, 0, none⟩)] 25)).alloc (.cells #[.int .i64 (n : Int)] 3)).cell? ⟨w.heap.size + 1, 0, none⟩ = some (.int .i64 (n : Int)) := by go_simp
  have hb0 : Below w.heap.size w ((w.alloc (.cells #[.pointer (some ⟨p, 0, none⟩)] 25)).alloc (.cells #[.int .i64 (n : Int)] 3)) := ((Below.refl _ w).alloc (Nat.le_refl _) _).alloc (by simp) _
  have hz : ((w.alloc (.cells #[.pointer (some ⟨p, 0, none⟩)] 25)).alloc (.cells #[.int .i64 (n : Int)] 3)).heap.size = w.heap.size + 2 := by simp
  generalize ((w.alloc (.cells #[.pointer (some ⟨p, 0, none⟩)] 25)).alloc (.cells #[.int .i64 (n : Int)] 3)) = w1 at *
  refine NB.wp_region_m (by kernel_rfl) ?_
  have hb1 := hb0.trans ((Below.refl _ w1).drew.mono hb0.size)
  replace q0 := (Below.cell (Below.refl _ w1).drew (World.block_lt_of_cell? _ _ q0)).trans q0
  replace q1 := (Below.cell (Below.refl _ w1).drew (World.block_lt_of_cell? _ _ q1)).trans q1
  replace hz : w1.drew.heap.size = w.heap.size + 2 := hz
  clear hb0
  generalize w1.drew = w2 at *
  have hD1 := hD.below hb1
  refine NB.any_r 0 rfl (by kernel_rfl) rfl _ (fun w' hw' => NB.run_op_load rfl rfl Try.underlying25 rfl (q0) hw') (fun K hK => ?_); go_simp; refine hK _ ?_; clear hK K
  refine NB.any_p 1 rfl (by kernel_rfl) (fun K hK => ?_); go_simp; refine hK _ ?_; clear hK K
  refine NB.any_p 2 rfl (by kernel_rfl) (fun K hK => ?_); go_simp; refine hK _ ?_; clear hK K
  refine NB.any_r 3 rfl (by kernel_rfl) rfl _ (fun w' hw' => NB.run_op_load rfl rfl Try.underlying3 rfl (q1) hw') (fun K hK => ?_); go_simp; refine hK _ ?_; clear hK K
  refine NB.any_p 4 rfl (by kernel_rfl) (fun K hK => ?_); go_simp; refine hK _ ?_; clear hK K
  refine NB.any_p 5 rfl (by kernel_rfl) (fun K hK => ?_); go_simp; refine hK _ ?_; clear hK K
  refine NB.any_p 6 rfl (by kernel_rfl) (fun K hK => ?_); go_simp; refine hK _ ?_; clear hK K
  refine NB.any_r 7 rfl (by kernel_rfl) rfl _ (fun w' hw' => NB.run_op_load rfl rfl Try.underlying3 rfl (q1) hw') (fun K hK => ?_); go_simp; refine hK _ ?_; clear hK K
  refine NB.any_r 8 rfl (by kernel_rfl) rfl _ (fun w' hw' => NB.run_op_load rfl rfl Try.underlying25 rfl (q0) hw') (fun K hK => ?_); go_simp; refine hK _ ?_; clear hK K
  refine NB.any_e 9 rfl (by kernel_rfl) (fun K hK => ?_); unfold NB.moves; go_simp; refine (dlen_any _ _ _ _ _ hD1).mono ?_; rintro e w' ⟨rfl, e2⟩; subst w'; refine ⟨_, rfl, Below.refl _ _, hK _ _ ?_⟩; clear hK K
  refine NB.any_p 10 rfl (by kernel_rfl) (fun K hK => ?_); go_simp; refine hK _ ?_; clear hK K
  refine NB.any_p 11 rfl (by kernel_rfl) (fun K hK => ?_); go_simp; refine hK _ ?_; clear hK K
  refine NB.any_p 12 rfl (by kernel_rfl) (fun K hK => ?_); go_simp; refine hK _ ?_; clear hK K
  refine NB.any_end (by kernel_rfl) ?_
  go_wp2_with fail
  have c0 : IsC ((w2.alloc (.cells #[.pointer (some ⟨p, 0, none⟩), .int .i64 (n : Int), .int .i64 (-1), .int .u64 0, .int .u64 0, .slice none 0 0, .int .i64 0] 72)).alloc (.cells #[.pointer (some ⟨w.heap.size + 2, 0, none⟩)] 29)) w.heap.size (w.heap.size + 2) p (.slice none 0 0) ⟨n, -1, 0, 0, [], 0⟩ :=
    ⟨by rw [← hz]; exact alloc2_first _ _ _, World.ownsRow_nil _ _ _ _, by omega, by simp [Value.ownBlock]⟩
  have q3 : ((w2.alloc (.cells #[.pointer (some ⟨p, 0, none⟩), .int .i64 (n : Int), .int .i64 (-1), .int .u64 0, .int .u64 0, .slice none 0 0, .int .i64 0] 72)).alloc (.cells #[.pointer (some ⟨w.heap.size + 2, 0, none⟩)] 29)).cell? ⟨w.heap.size + 2 + 1, 0, none⟩ = some (.pointer (some ⟨w.heap.size + 2, 0, none⟩)) := by rw [← hz]; go_simp
  have hb2 : Below w2.heap.size w2 ((w2.alloc (.cells #[.pointer (some ⟨p, 0, none⟩), .int .i64 (n : Int), .int .i64 (-1), .int .u64 0, .int .u64 0, .slice none 0 0, .int .i64 0] 72)).alloc (.cells #[.pointer (some ⟨w.heap.size + 2, 0, none⟩)] 29)) := ((Below.refl _ w2).alloc (Nat.le_refl _) _).alloc (by simp) _
  have hz3 : ((w2.alloc (.cells #[.pointer (some ⟨p, 0, none⟩), .int .i64 (n : Int), .int .i64 (-1), .int .u64 0, .int .u64 0, .slice none 0 0, .int .i64 0] 72)).alloc (.cells #[.pointer (some ⟨w.heap.size + 2, 0, none⟩)] 29)).heap.size = w.heap.size + 4 := by rw [alloc2_size, hz]
  generalize (w2.alloc (.cells #[.pointer (some ⟨p, 0, none⟩), .int .i64 (n : Int), .int .i64 (-1), .int .u64 0, .int .u64 0, .slice none 0 0, .int .i64 0] 72)).alloc (.cells #[.pointer (some ⟨w.heap.size + 2, 0, none⟩)] 29) = w3 at *
  replace q0 := (Below.cell hb2 (World.block_lt_of_cell? _ _ q0)).trans q0
  replace q1 := (Below.cell hb2 (World.block_lt_of_cell? _ _ q1)).trans q1
  have hb3 := hb1.trans (hb2.mono (by omega))
  clear hb1 hb2 hz hD1
  generalize hbc : w.heap.size + 2 + 1 = bc at *
  generalize hq : w.heap.size + 2 = q at *
  generalize hba : w.heap.size + 1 = ba at *
  have hqf : q ≠ w.heap.size ∧ q ≠ ba ∧ q ≠ bc ∧ ba < w.heap.size + 4 ∧ bc < w.heap.size + 4 := by omega
  go_loopw [28] (fun i wr => ∃ (k : Nat) (v : Value), k ≤ 2 ∧ i = .int .i64 k ∧ IsC wr w.heap.size q p v (stepC n D k) ∧ (∀ x, v.ownBlock = some x → w.heap.size + 4 ≤ x) ∧ wr.cell? ⟨w.heap.size, 0, none⟩ = some (.pointer (some ⟨p, 0, none⟩)) ∧ wr.cell? ⟨ba, 0, none⟩ = some (.int .i64 (n : Int)) ∧ wr.cell? ⟨bc, 0, none⟩ = some (.pointer (some ⟨q, 0, none⟩)) ∧ Below w.heap.size w wr ∧ w.heap.size + 4 ≤ wr.heap.size) (fun i _ => 2 - (intOf i).toNat)
  case atStart => exact ⟨0, _, by omega, rfl, c0, by simp [Value.ownBlock], q0, q1, q3, hb3, by omega⟩
  case round =>
    clear c0 q0 q1 q3 hb3 hz3
    obtain ⟨k, v, hk, rfl, hC, hv, q0, q1, q3, hb, hz⟩ := hrel
    by_cases hlt : k < 2
    · have hki : (k : Int) < 2 := by omega
      have hDr := hD.below hb
      have hat := stepC_at n D k
      have hrd : (D.read (((stepC n D k).at_ + k : Nat) : Int)).2 = 0 ∧ (D.read (((stepC n D k).at_ + k : Nat) : Int)).1.length = 64 := by
        rw [hat]
        have : k = 0 ∨ k = 1 := by omega
        rcases this with rfl | rfl
        · exact ⟨h0, h64'⟩
        · exact ⟨h1, h65'⟩
      have hs := stepC_succ n D k
      rw [hat] at hrd
      generalize stepC n D k = c at *
      subst hat
      have HS := Go.Lib.hid hs
      clear hs
      go_wp2_with (first
        | (go_at_call 28; refine (look_any wr _ _ _ q _ based p G c D k v hC hDr (by omega) (by omega) hwn q0 q1 q3 (by omega) (fun _ => hrd.2)).mono ?_; rintro e w' ⟨rfl, v', hC', hS⟩; rw [hrd.1]))
      rw [if_pos hrd.1, ← HS.out] at hC'
      have hnf : ∀ x, x ≠ q → x < w.heap.size + 4 → ¬ footC q v x := fun x h1 h2 h3 => h3.elim h1 (fun h => by have := hv x h; omega)
      refine ⟨⟨k + 1, v', by omega, by simp, hC', fun x hx => ?_, Kp.cell hS.kp (hnf _ (Ne.symm hqf.1) (by simp only; omega)) q0, Kp.cell hS.kp (hnf _ (Ne.symm hqf.2.1) (by simp only; omega)) q1, Kp.cell hS.kp (hnf _ (Ne.symm hqf.2.2.1) (by simp only; omega)) q3,
        hb.trans (hS.low (by omega) (fun x hx => (hC.foot x hx).1)), Nat.le_trans hz hS.size⟩, by simp [intOf]; omega⟩
      rcases hS.sub x (.inr hx) with (h | h) | h
      · exact absurd (h ▸ hx) hC'.nv
      · exact hv x h
      · omega
    · obtain rfl : k = 2 := by omega
      go_wp2_with fail
      go_ret2
      exact ⟨q, _, rfl, ⟨v, hC, rfl⟩, hb⟩
end Go.Proofs.Ytcdapjfaekamkaa
