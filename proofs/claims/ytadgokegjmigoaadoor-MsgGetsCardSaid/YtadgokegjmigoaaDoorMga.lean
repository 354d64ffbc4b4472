/- Messages in memory; the table of fields; 'has' walked. -/
import Derived.Test.YtadgokegjmigoaaDoorMgp
import Derived.Test.YtadgokegjmigoaaDoorRw
import Derived.Test.YtadgokegjmigoaaDoorSlc
import Derived.Test.YtadgokegjmigoaaDoorAny
import Derived.Test.YtadgokegjmigoaaDoorOpenu
import Derived.Laws.BitsAll
namespace Go.Proofs.YtadgokegjmigoaaDoor
open Go.RowKit
open Go.NB (Rd Kp Stp Off Dis oneB dB Rw RdU)

/-! ### The table -/
def fldN : List Nat := [0, 572, 252, 636, 76, 76, 268, 3, 515, 515, 3, 1, 514, 2, 112, 764, 252, 240, 3]
/-- The table lies in its place. -/
def Tb (w : World) : Prop := ∀ k, k < 19 → w.cell? ⟨0, k, none⟩ = some (.int .u64 ((fldN.getD k 0 : Nat) : Int))
theorem Tb.below {w w' : World} {B : Nat} (h : Tb w) (hb : Below B w w') (h0 : 0 < B) : Tb w' := fun k hk => by
  have := h k hk
  unfold World.cell? at this ⊢
  rw [hb.block 0 h0]
  exact this
theorem Tb.size {w : World} (h : Tb w) : 0 < w.heap.size := World.block_lt_of_cell? _ _ (h 0 (by omega))
theorem Tb.grow {w w' : World} (h : Tb w) (hb : Below w.heap.size w w') : Tb w' := h.below hb h.size
theorem fld_bit : ∀ k, k < 19 → ∀ f, f < 10 → (fldN.getD k 0).testBit f = (flds k).contains f := by decide
theorem fld_lt : ∀ k, k < 19 → fldN.getD k 0 < 1024 := by decide

/-! ### Bits -/
theorem pow_or (x i : Nat) (h : x < 2 ^ i) : x ||| 2 ^ i = x + 2 ^ i := by
  have := Nat.two_pow_add_eq_or_of_lt h 1
  rw [Nat.mul_one] at this
  rw [Nat.or_comm, ← this]; omega
theorem bits_or (x y : Nat) (hx : x < 65536) (hy : y < 65536) : bits .or .u64 (x : Int) (y : Int) = ((x ||| y : Nat) : Int) := by
  have h1 : (BitVec.ofInt 64 (x : Int)).toNat = x := by rw [BitVec.toNat_ofInt]; omega
  have h2 : (BitVec.ofInt 64 (y : Int)).toNat = y := by rw [BitVec.toNat_ofInt]; omega
  show IntKind.u64.wrap (((BitVec.ofInt 64 (x : Int)) ||| (BitVec.ofInt 64 (y : Int))).toNat : Int) = _
  rw [BitVec.toNat_or, h1, h2, IntKind.wrap_u64]
  have := Nat.or_lt_two_pow (n := 16) hx hy
  omega
theorem bits_and (x y : Nat) (hx : x < 65536) (hy : y < 65536) : bits .and .u64 (x : Int) (y : Int) = ((x &&& y : Nat) : Int) := by
  have h1 : (BitVec.ofInt 64 (x : Int)).toNat = x := by rw [BitVec.toNat_ofInt]; omega
  have h2 : (BitVec.ofInt 64 (y : Int)).toNat = y := by rw [BitVec.toNat_ofInt]; omega
  show IntKind.u64.wrap (((BitVec.ofInt 64 (x : Int)) &&& (BitVec.ofInt 64 (y : Int))).toNat : Int) = _
  rw [BitVec.toNat_and, h1, h2, IntKind.wrap_u64]
  have : x &&& y ≤ x := Nat.and_le_left
  omega

/-! ### A message in memory -/
def msgV (m : Mm) (av : Option Addr) (cv : Nat) (ab : Option Addr) (cb : Nat) : List Value :=
  [.int .i64 m.kind, .int .u64 (m.ballot : Int), .int .u64 (m.slot : Int), .int .i64 m.shard, .int .i64 m.seg, .int .u64 (m.client : Int), .int .u64 (m.seq : Int), .int .u64 (m.pos : Int), .int .i64 m.code, .slice av m.vec.length cv, .slice ab m.body.length cb]
/-- What its two rows read as. -/
structure MsgR (w : World) (m : Mm) (av : Option Addr) (cv : Nat) (ab : Option Addr) (cb : Nat) : Prop where
  vec : RdU w av m.vec.length cv m.vec
  body : NB.RdB w ab m.body.length cb m.body
theorem MsgR.below {w w' : World} {m : Mm} {av : Option Addr} {cv : Nat} {ab : Option Addr} {cb : Nat} (h : MsgR w m av cv ab cb) (hb : Below w.heap.size w w') : MsgR w' m av cv ab cb := ⟨h.vec.below hb, h.body.below hb⟩

set_option maxHeartbeats 400000 in
theorem known_any (w : World) (k : Int) : Calls Tryd.prog 23 #[.int .i64 k] w fun e w' => e = .returned (.bool (known k)) ∧ w' = w := by
  by_cases h1 : 1 ≤ k
  · have h1d : decide (1 ≤ k) = true := decide_eq_true h1
    go_enter Tryd.func23, Tryd.ntmps23
    go_wp2
    go_ret
    refine ⟨?_, rfl⟩
    unfold known
    rw [h1d]; simp
  · have h1d : decide (1 ≤ k) = false := decide_eq_false h1
    go_enter Tryd.func23, Tryd.ntmps23
    go_wp2
    go_ret
    refine ⟨?_, rfl⟩
    unfold known
    rw [h1d]; simp
set_option maxHeartbeats 400000 in
theorem within_any (w : World) (x b : Int) : Calls Tryd.prog 39 #[.int .i64 x, .int .i64 b] w fun e w' => e = .returned (.bool (decide (0 ≤ x ∧ x < b))) ∧ w' = w := by
  by_cases h1 : 0 ≤ x
  · have h1d : decide (0 ≤ x) = true := decide_eq_true h1
    go_enter Tryd.func39, Tryd.ntmps39
    go_wp2
    go_ret
    refine ⟨?_, rfl⟩
    simp [h1]
  · have h1d : decide (0 ≤ x) = false := decide_eq_false h1
    go_enter Tryd.func39, Tryd.ntmps39
    go_wp2
    go_ret
    refine ⟨?_, rfl⟩
    simp [h1]

/-! ### 'has' -/
def addB (x : Nat) (b : Bool) (i : Nat) : Nat := if b = true then x + 2 ^ i else x
def bitsM (m : Mm) : Nat := (List.range 10).foldl (fun x i => addB x (hasF m i) i) 0
theorem addB_lt {x i : Nat} {b : Bool} (h : x < 2 ^ i) : addB x b i < 2 ^ (i + 1) := by
  unfold addB
  rw [Nat.pow_succ]
  split <;> omega
theorem addB_bit {x i : Nat} {b : Bool} (h : x < 2 ^ i) (j : Nat) : (addB x b i).testBit j = if j = i then b else x.testBit j := by
  unfold addB
  cases b
  · by_cases hj : j = i
    · subst hj
      rw [if_neg (by simp), if_pos rfl, Nat.testBit_lt_two_pow h]
    · rw [if_neg (by simp), if_neg hj]
  · rw [if_pos rfl, ← pow_or x i h, Nat.testBit_or, Nat.testBit_two_pow]
    by_cases hj : j = i
    · subst hj; simp
    · rw [if_neg hj]; simp [Ne.symm hj]
theorem bits_fold (m : Mm) : ∀ n, (List.range n).foldl (fun x i => addB x (hasF m i) i) 0 < 2 ^ n ∧ ∀ j, ((List.range n).foldl (fun x i => addB x (hasF m i) i) 0).testBit j = (decide (j < n) && hasF m j)
  | 0 => ⟨by simp, fun j => by simp⟩
  | n + 1 => by
    obtain ⟨h1, h2⟩ := bits_fold m n
    rw [List.range_succ, List.foldl_append, List.foldl_cons, List.foldl_nil]
    refine ⟨addB_lt h1, fun j => ?_⟩
    rw [addB_bit h1, h2 j]
    by_cases hj : j = n
    · subst hj; simp
    · rw [if_neg hj]
      by_cases hl : j < n
      · rw [decide_eq_true hl, decide_eq_true (show j < n + 1 by omega)]
      · rw [decide_eq_false hl, decide_eq_false (show ¬ j < n + 1 by omega)]
theorem bitsM_lt (m : Mm) : bitsM m < 1024 := (bits_fold m 10).1
theorem bitsM_bit (m : Mm) (j : Nat) : (bitsM m).testBit j = (decide (j < 10) && hasF m j) := (bits_fold m 10).2 j

set_option maxHeartbeats 400000 in
theorem note_any (w : World) (o : Nat) (b : Bool) (x i : Nat) (hx : x < 2 ^ i) (hi : i < 10) (hc : w.cell? ⟨o, 0, none⟩ = some (.int .u64 (x : Int))) (hf : w.frozen? ⟨o, 0, none⟩ = false) :
    Calls Tryd.prog 60 #[.bool b, .int .u64 ((2 ^ i : Nat) : Int), .pointer (some ⟨o, 0, none⟩)] w fun e w' => e = .returned (.tuple #[]) ∧ w' = if b = true then w.setCell ⟨o, 0, none⟩ (.int .u64 ((x + 2 ^ i : Nat) : Int)) else w := by
  have h10 : 2 ^ i ≤ 2 ^ 9 := Nat.pow_le_pow_right (by omega) (by omega)
  have hor : bits .or .u64 (x : Int) ((2 ^ i : Nat) : Int) = ((x + 2 ^ i : Nat) : Int) := by rw [bits_or _ _ (by omega) (by omega), pow_or _ _ hx]
  generalize 2 ^ i = Y at *
  generalize x + Y = Z at *
  cases b
  · go_enter Tryd.func60, Tryd.ntmps60
    go_wp2
    go_end0
    exact ⟨rfl, rfl⟩
  · go_enter Tryd.func60, Tryd.ntmps60
    go_wp2
    go_end0
    exact ⟨rfl, rfl⟩
/-- While the bits are laid. -/
structure HasSt (w0 w : World) (bx o : Nat) (vs : List Value) (x : Nat) : Prop where
  box : Rw w bx vs 32
  out : Rw w o [.int .u64 (x : Int)] 67
  bel : Below w0.heap.size w0 w
  ne : bx ≠ o
  ge : w0.heap.size ≤ o
theorem note_st (w0 w : World) (bx o : Nat) (vs : List Value) (b : Bool) (x i : Nat) (f : Int) (hf : f = ((2 ^ i : Nat) : Int)) (hx : x < 2 ^ i) (hi : i < 10) (h : HasSt w0 w bx o vs x) :
    Calls Tryd.prog 60 #[.bool b, .int .u64 f, .pointer (some ⟨o, 0, none⟩)] w fun e w' => e = .returned (.tuple #[]) ∧ HasSt w0 w' bx o vs (addB x b i) := by
  subst hf
  obtain ⟨c0, f0⟩ := NB.rw1 h.out
  refine (note_any w o b x i hx hi c0 f0).mono ?_
  rintro e w' ⟨rfl, rfl⟩
  refine ⟨rfl, ?_⟩
  unfold addB
  cases b
  · exact h
  · exact ⟨h.box.other h.ne 0 _, h.out.set 0 _, h.bel.setCell (p := ⟨o, 0, none⟩) h.ge _, h.ne, h.ge⟩

theorem neN (x : Nat) : ((x : Int) != 0) = decide (x ≠ 0) := by by_cases h : x = 0 <;> simp [h]
theorem neI (x : Int) : (x != 0) = decide (x ≠ 0) := by by_cases h : x = 0 <;> simp [h]
set_option maxRecDepth 100000 in
set_option maxHeartbeats 2000000 in
theorem has_any (w : World) (m : Mm) (av : Option Addr) (cv : Nat) (ab : Option Addr) (cb : Nat) :
    Calls Tryd.prog 38 #[.agg (msgV m av cv ab cb).toArray] w fun e w' => e = .returned (.int .u64 (bitsM m : Int)) ∧ Below w.heap.size w w' := by
  have e0 : ((m.ballot : Int) != 0) = hasF m 0 := neN m.ballot
  have e1 : ((m.slot : Int) != 0) = hasF m 1 := neN m.slot
  have e2 : (m.shard != 0) = hasF m 2 := neI m.shard
  have e3 : (m.seg != 0) = hasF m 3 := neI m.seg
  have e4 : ((m.client : Int) != 0) = hasF m 4 := neN m.client
  have e5 : ((m.seq : Int) != 0) = hasF m 5 := neN m.seq
  have e6 : ((m.pos : Int) != 0) = hasF m 6 := neN m.pos
  have e7 : (m.code != 0) = hasF m 7 := neI m.code
  have e8 : decide (0 < m.vec.length) = hasF m 8 := by unfold hasF; cases m.vec <;> simp
  have e9 : decide (0 < m.body.length) = hasF m 9 := by unfold hasF; cases m.body <;> simp
  have hbm : bitsM m = addB (addB (addB (addB (addB (addB (addB (addB (addB (addB 0 (hasF m 0) 0) (hasF m 1) 1) (hasF m 2) 2) (hasF m 3) 3) (hasF m 4) 4) (hasF m 5) 5) (hasF m 6) 6) (hasF m 7) 7) (hasF m 8) 8) (hasF m 9) 9 := rfl
  rw [hbm]
  clear hbm
  unfold msgV
  have h0 : HasSt w ((w.alloc (.cells #[.int .i64 m.kind, .int .u64 (m.ballot : Int), .int .u64 (m.slot : Int), .int .i64 m.shard, .int .i64 m.seg, .int .u64 (m.client : Int), .int .u64 (m.seq : Int), .int .u64 (m.pos : Int), .int .i64 m.code, .slice av m.vec.length cv, .slice ab m.body.length cb] 32)).alloc (.cells #[.int .u64 0] 67)) w.heap.size (w.heap.size + 1) [.int .i64 m.kind, .int .u64 (m.ballot : Int), .int .u64 (m.slot : Int), .int .i64 m.shard, .int .i64 m.seg, .int .u64 (m.client : Int), .int .u64 (m.seq : Int), .int .u64 (m.pos : Int), .int .i64 m.code, .slice av m.vec.length cv, .slice ab m.body.length cb] 0 :=
    ⟨(NB.rw_new w [.int .i64 m.kind, .int .u64 (m.ballot : Int), .int .u64 (m.slot : Int), .int .i64 m.shard, .int .i64 m.seg, .int .u64 (m.client : Int), .int .u64 (m.seq : Int), .int .u64 (m.pos : Int), .int .i64 m.code, .slice av m.vec.length cv, .slice ab m.body.length cb] _ rfl).below (oneB _ _), NB.rw_new _ [.int .u64 0] _ (by simp), ((Below.refl _ w).alloc (Nat.le_refl _) _).alloc (by simp) _, by omega, by omega⟩
  generalize hasF m 0 = b0 at *
  generalize hasF m 1 = b1 at *
  generalize hasF m 2 = b2 at *
  generalize hasF m 3 = b3 at *
  generalize hasF m 4 = b4 at *
  generalize hasF m 5 = b5 at *
  generalize hasF m 6 = b6 at *
  generalize hasF m 7 = b7 at *
  generalize hasF m 8 = b8 at *
  generalize hasF m 9 = b9 at *
  go_enter Tryd.func38, Tryd.ntmps38
  go_wp2_with fail
  go_at_call 60
  refine (note_st w _ w.heap.size (w.heap.size + 1) _ b0 0 0 _ rfl (by decide) (by omega) h0).mono ?_
  rintro e v1 ⟨rfl, S1⟩
  have X1 := addB_lt (b := b0) (show 0 < 2 ^ 0 by decide)
  have c1 := S1.box.cell 2 _ rfl
  go_wp2_with fail
  go_at_call 60
  refine (note_st w _ w.heap.size (w.heap.size + 1) _ b1 _ 1 _ rfl X1 (by omega) S1).mono ?_
  rintro e v2 ⟨rfl, S2⟩
  have X2 := addB_lt (b := b1) X1
  have c2 := S2.box.cell 3 _ rfl
  go_wp2_with fail
  go_at_call 60
  refine (note_st w _ w.heap.size (w.heap.size + 1) _ b2 _ 2 _ rfl X2 (by omega) S2).mono ?_
  rintro e v3 ⟨rfl, S3⟩
  have X3 := addB_lt (b := b2) X2
  have c3 := S3.box.cell 4 _ rfl
  go_wp2_with fail
  go_at_call 60
  refine (note_st w _ w.heap.size (w.heap.size + 1) _ b3 _ 3 _ rfl X3 (by omega) S3).mono ?_
  rintro e v4 ⟨rfl, S4⟩
  have X4 := addB_lt (b := b3) X3
  have c4 := S4.box.cell 5 _ rfl
  go_wp2_with fail
  go_at_call 60
  refine (note_st w _ w.heap.size (w.heap.size + 1) _ b4 _ 4 _ rfl X4 (by omega) S4).mono ?_
  rintro e v5 ⟨rfl, S5⟩
  have X5 := addB_lt (b := b4) X4
  have c5 := S5.box.cell 6 _ rfl
  go_wp2_with fail
  go_at_call 60
  refine (note_st w _ w.heap.size (w.heap.size + 1) _ b5 _ 5 _ rfl X5 (by omega) S5).mono ?_
  rintro e v6 ⟨rfl, S6⟩
  have X6 := addB_lt (b := b5) X5
  have c6 := S6.box.cell 7 _ rfl
  go_wp2_with fail
  go_at_call 60
  refine (note_st w _ w.heap.size (w.heap.size + 1) _ b6 _ 6 _ rfl X6 (by omega) S6).mono ?_
  rintro e v7 ⟨rfl, S7⟩
  have X7 := addB_lt (b := b6) X6
  have c7 := S7.box.cell 8 _ rfl
  go_wp2_with fail
  go_at_call 60
  refine (note_st w _ w.heap.size (w.heap.size + 1) _ b7 _ 7 _ rfl X7 (by omega) S7).mono ?_
  rintro e v8 ⟨rfl, S8⟩
  have X8 := addB_lt (b := b7) X7
  have c8 := S8.box.cell 9 _ rfl
  go_wp2_with fail
  go_at_call 60
  refine (note_st w _ w.heap.size (w.heap.size + 1) _ b8 _ 8 _ rfl X8 (by omega) S8).mono ?_
  rintro e v9 ⟨rfl, S9⟩
  have X9 := addB_lt (b := b8) X8
  have c9 := S9.box.cell 10 _ rfl
  go_wp2_with fail
  go_at_call 60
  refine (note_st w _ w.heap.size (w.heap.size + 1) _ b9 _ 9 _ rfl X9 (by omega) S9).mono ?_
  rintro e v10 ⟨rfl, S10⟩
  have X10 := addB_lt (b := b9) X9
  have cE := S10.out.cell 0 _ rfl
  go_wp2_with fail
  go_ret
  exact ⟨rfl, S10.bel⟩
end Go.Proofs.YtadgokegjmigoaaDoor
