/- The reference on segments, walked: Open. The reference on segments, walked: Open joined; Append's refusals. The reference on segments, walked: Append's way through. The reference on segments, walked: Append joined; Sync, Read, Trim. The reference on segments, walked: Read, Trim. The law's record and has, walked. -/
import Derived.Test.YtmgkaoenjnnlmaaRux1
import Derived.Test.YtmgkaoenjnnlmaaRfx
import Derived.Test.YtmgkaoenjnnlmaaSgd
import Derived.Test.YtmgkaoenjnnlmaaOpen
import Derived.Test.YtmgkaoenjnnlmaaTalq
import Derived.Test.YtmgkaoenjnnlmaaSgx2
import Derived.Test.YtmgkaoenjnnlmaaSgx1
namespace Go.Proofs.Ytmgkaoenjnnlmaa
open Go.RowKit
open Go.NB.Crc
open Go.NB (Rd Dk Kp val)

def sgL (S : Sg) (a : Option Addr) (c : Nat) : List Value := [.int .i64 (S.frm : Int), .int .i64 (S.n : Int), .int .u64 (S.epoch : Int), .slice a S.l.length c, .int .i64 (S.used : Int), .int .i64 (S.sure : Int), .int .i64 (S.gone : Int), .int .i64 S.e]
/-- A segment of the reference. -/
def RefS (w : World) (v : Value) (S : Sg) : Prop := ∃ a c, v = .agg (sgL S a c).toArray ∧ Rd 1 w a S.l.length c (strsL S.l)
theorem RefS.below {w w' : World} {v : Value} {S : Sg} (h : RefS w v S) (hb : Below w.heap.size w w') : RefS w' v S := by
  obtain ⟨a, c, e, h1⟩ := h
  exact ⟨a, c, e, Rd.below h1 hb⟩
/-- The block that it lies in. -/
def locS (v : Value) (k : Nat) : Prop := ∃ S a c o, v = .agg (sgL S a c).toArray ∧ a = some ⟨k, o, none⟩ ∧ S.l ≠ []
def sg0 : Sg := ⟨0, 0, 0, [], 0, 0, 0, 0⟩
theorem refS_zero (w : World) : RefS w (.agg (sgL sg0 none 0).toArray) sg0 := ⟨none, 0, rfl, NB.Rd.nil_mk⟩
theorem locS_row {S : Sg} {a : Option Addr} {c k : Nat} (h : locS (.agg (sgL S a c).toArray) k) : ∃ o, a = some ⟨k, o, none⟩ ∧ S.l ≠ [] := by
  obtain ⟨S', a', c', o, e, h1, h2⟩ := h
  unfold sgL at e
  simp only [Value.agg.injEq, Array.mk.injEq, List.cons.injEq, Value.slice.injEq] at e
  obtain ⟨-, -, -, ⟨h3, h4, -⟩, -⟩ := e
  exact ⟨o, by rw [h3]; exact h1, fun h => h2 (List.eq_nil_of_length_eq_zero (by rw [← h4, h]; rfl))⟩
/-- What opening tells. -/
def OpenR (w : World) (D : Dk) (frm n : Int) (e : Ending) (w' : World) : Prop :=
  ∃ v, e = .returned (.tuple #[v, .int .i64 (openE D frm n)]) ∧ RefS w' v (if openE D frm n = 0 then openS D frm n else sg0) ∧ Below w.heap.size w w' ∧ ∀ k, locS v k → w.heap.size ≤ k
theorem open_no {w w' : World} {D : Dk} {frm n x : Int} (h : openE D frm n = x) (hx : x ≠ 0) (hb : Below w.heap.size w w') : OpenR w D frm n (.returned (.tuple #[.agg #[Value.int .i64 0, .int .i64 0, .int .u64 0, .slice none 0 0, .int .i64 0, .int .i64 0, .int .i64 0, .int .i64 0], .int .i64 x])) w' :=
  ⟨.agg (sgL sg0 none 0).toArray, by rw [h]; rfl, by rw [h, if_neg hx]; exact refS_zero w', hb, fun k hk => by obtain ⟨o, e, _⟩ := locS_row hk; cases e⟩
theorem open_yes {w w' : World} {D : Dk} {frm n : Int} {S : Sg} {a : Option Addr} {c : Nat} (h : openE D frm n = 0) (hS : openS D frm n = S) (hb : Below w.heap.size w w') (hr : Rd 1 w' a S.l.length c (strsL S.l)) (ha : ∀ k o, a = some ⟨k, o, none⟩ → w.heap.size ≤ k) : OpenR w D frm n (.returned (.tuple #[.agg (sgL S a c).toArray, .int .i64 0])) w' :=
  ⟨.agg (sgL S a c).toArray, by rw [h], by rw [h, if_pos rfl, hS]; exact ⟨a, c, rfl, hr⟩, hb, fun k hk => by obtain ⟨o, e, _⟩ := locS_row hk; exact ha k o e⟩
theorem openE_arg {D : Dk} {frm n : Int} (h : frm < 0 ∨ n < 1 ∨ (D.l.length : Int) < frm ∨ (D.l.length : Int) - frm < n) : openE D frm n = 1 := by unfold openE; rw [if_pos h]
theorem openE_down {D : Dk} {frm n : Int} (h : ¬ (frm < 0 ∨ n < 1 ∨ (D.l.length : Int) < frm ∨ (D.l.length : Int) - frm < n)) (hd : D.down = true) : openE D frm n = 20 := by unfold openE; rw [if_neg h, if_pos hd]
theorem openE_top {D : Dk} {F N : Nat} (h : ¬ ((F : Int) < 0 ∨ (N : Int) < 1 ∨ (D.l.length : Int) < F ∨ (D.l.length : Int) - F < N)) (hd : D.down = false) {R : List (List UInt8)} (hR : regM D F N = R) : openE D F N = if 4294967295 ≤ topM R then 37 else 0 := by
  unfold openE; rw [if_neg h, hd, if_neg (by simp)]; simp only [Int.toNat_natCast]; subst hR; rfl
theorem rd_ok {D : Dk} (hd : D.down = false) (h64 : ∀ b ∈ D.l, b.length = 64) (hw : ∀ x ∈ D.waits, x.2.length = 64 ∧ x.1 < D.l.length) (i : Nat) (hi : i < D.l.length) : (D.read (i : Int)).2 = 0 ∧ (D.read (i : Int)).1.length = 64 := by
  have ha : D.at_ (i : Int) = 0 := by unfold Dk.at_; rw [hd, if_neg (by simp), if_neg (by omega)]
  unfold Dk.read
  rw [ha, if_neg (by simp)]
  refine ⟨rfl, ?_⟩
  simp only [Int.toNat_natCast]
  exact see64 (rfl : (List.replicate 64 (0 : UInt8)).length = 64) i D.waits (fun x hx => (hw x hx).1) _ (by rw [List.getD_eq_getElem?_getD, List.getElem?_eq_getElem hi]; exact h64 _ (List.getElem_mem _))
theorem reg_len (D : Dk) (F N : Nat) : (regM D F N).length = N := by simp [regM]
theorem reg_64 {D : Dk} (hd : D.down = false) (h64 : ∀ b ∈ D.l, b.length = 64) (hw : ∀ x ∈ D.waits, x.2.length = 64 ∧ x.1 < D.l.length) {F N : Nat} (hN : F + N ≤ D.l.length) : ∀ b ∈ regM D F N, b.length = 64 := fun b hb => by
  unfold regM at hb
  obtain ⟨i, hi, rfl⟩ := List.mem_map.1 hb
  exact (rd_ok hd h64 hw (F + i) (by have := List.mem_range.1 hi; omega)).2
theorem reg_snoc (D : Dk) (F i : Nat) : regM D F (i + 1) = regM D F i ++ [(D.read ((F + i : Nat) : Int)).1] := by unfold regM; rw [List.range_succ, List.map_append]; rfl
theorem topM_lt (R : List (List UInt8)) : topM R < 4294967296 := by
  have : ∀ (R : List (List UInt8)) t, t < 4294967296 → R.foldl (fun t b => max t (max (num4 b) (num4 (b.drop 60)))) t < 4294967296 := fun R => by
    induction R with
    | nil => intro t h; exact h
    | cons b R ih =>
      intro t h
      have h1 := num4_lt b; have h2 := num4_lt (b.drop 60)
      exact ih _ (show max t (max (num4 b) (num4 (b.drop 60))) < 4294967296 by omega)
  exact this R 0 (by omega)
theorem strs_snoc' (l : List (List UInt8)) (b : List UInt8) : strsL l ++ [strL b] = strsL (l ++ [b]) := by simp [strsL]

/-- What stands while a segment is opened. -/
structure UO (w : World) (dv sv : List Value) (W : World) : Prop where
  p3 : Rw W w.heap.size dv 50
  p6 : Rw W (w.heap.size + 1) [Value.int .i64 0, .int .i64 0, .int .u64 0, .slice none 0 0, .int .i64 0, .int .i64 0, .int .i64 0, .int .i64 0] 55
  p8 : Rw W (w.heap.size + 2) sv 55
  bel : Below w.heap.size w W
section
variable {w W W' : World} {dv sv : List Value}
def usedOf (w : World) (g : Nat) : Nat := match w.cell? ⟨g, 4, none⟩ with
  | some v => (intOf v).toNat
  | none => 0
theorem dB' (w : World) : Below w.heap.size w w.drew := (Below.refl _ _).drew
theorem UO.below (h : UO w dv sv W) (hb : Below W.heap.size W W') : UO w dv sv W' := ⟨h.p3.below hb, h.p6.below hb, h.p8.below hb, bel' h.bel hb h.bel.size⟩
theorem UO.kp {F : Nat → Prop} (h : UO w dv sv W) (hk : Kp F W W') (hF : ∀ k, F k → w.heap.size + 3 ≤ k) : UO w dv sv W' :=
  ⟨h.p3.keep hk (fun f => by have := hF _ f; omega), h.p6.keep hk (fun f => by have := hF _ f; omega), h.p8.keep hk (fun f => by have := hF _ f; omega), h.bel.trans (hk.belowB h.bel.size (fun k hf => by have := hF k hf; omega))⟩
theorem UO.set (h : UO w dv sv W) (k : Nat) (v : Value) : UO w dv (sv.set k v) (W.setCell ⟨w.heap.size + 2, k, none⟩ v) :=
  ⟨h.p3.other (by omega) k v, h.p6.other (by omega) k v, h.p8.set k v, h.bel.setCell (p := ⟨w.heap.size + 2, k, none⟩) (by simp) v⟩
end

set_option maxRecDepth 100000 in
set_option maxHeartbeats 16000000 in
theorem ropen_a1 (w : World) (l0 : List (List UInt8)) (ws0 : List (Nat × List UInt8)) (left : Int) (down : Bool) (a1 a2 : Option Addr) (c1 c2 : Nat) (h1 : Rd 1 w a1 l0.length c1 (strsL l0)) (h2 : Rd 2 w a2 ws0.length c2 (wsL ws0)) (hln : l0.length ≤ 65536) (hw : ws0.length ≤ 100000) (frm n : Int) (h : frm < 0) :
    Calls Try.prog 23 #[.agg #[Value.slice a1 l0.length c1, .slice a2 ws0.length c2, .int .i64 left, .bool down], .int .i64 frm, .int .i64 n] w (OpenR w ⟨l0, ws0, left, down⟩ frm n) := by
  have hbd1 := h1.bound
  have r3 : Rw ((w.alloc (.cells #[Value.slice a1 l0.length c1, .slice a2 ws0.length c2, .int .i64 left, .bool down] 50)).alloc (.cells #[Value.int .i64 0, .int .i64 0, .int .u64 0, .slice none 0 0, .int .i64 0, .int .i64 0, .int .i64 0, .int .i64 0] 55)) w.heap.size [Value.slice a1 l0.length c1, .slice a2 ws0.length c2, .int .i64 left, .bool down] 50 := (rw_new w [Value.slice a1 l0.length c1, .slice a2 ws0.length c2, .int .i64 left, .bool down] 50 rfl).below (oneB' _ _)
  have r6 : Rw ((w.alloc (.cells #[Value.slice a1 l0.length c1, .slice a2 ws0.length c2, .int .i64 left, .bool down] 50)).alloc (.cells #[Value.int .i64 0, .int .i64 0, .int .u64 0, .slice none 0 0, .int .i64 0, .int .i64 0, .int .i64 0, .int .i64 0] 55)) (w.heap.size + 1) [Value.int .i64 0, .int .i64 0, .int .u64 0, .slice none 0 0, .int .i64 0, .int .i64 0, .int .i64 0, .int .i64 0] 55 := rw_new (w.alloc (.cells #[Value.slice a1 l0.length c1, .slice a2 ws0.length c2, .int .i64 left, .bool down] 50)) [Value.int .i64 0, .int .i64 0, .int .u64 0, .slice none 0 0, .int .i64 0, .int .i64 0, .int .i64 0, .int .i64 0] 55 (by simp)
  have B2 : Below w.heap.size w ((w.alloc (.cells #[Value.slice a1 l0.length c1, .slice a2 ws0.length c2, .int .i64 left, .bool down] 50)).alloc (.cells #[Value.int .i64 0, .int .i64 0, .int .u64 0, .slice none 0 0, .int .i64 0, .int .i64 0, .int .i64 0, .int .i64 0] 55)) := (oneB' w _).alloc (oneB' w _).size _
  have hq := openE_arg (D := ⟨l0, ws0, left, down⟩) (frm := frm) (n := n) (.inl h)
  have HQ := Go.Lib.hid hq
  clear hq
  have hd := decide_eq_true h
  have b0 := r3.cell 0 _ rfl
  have hz0 := r3.free 0
  have R9 := ((((((((r6.set 0 (.int .i64 0)).set 1 (.int .i64 0)).set 2 (.int .u64 0)).set 3 (.slice none 0 0)).set 4 (.int .i64 0)).set 5 (.int .i64 0)).set 6 (.int .i64 0)).set 7 (.int .i64 0))
  simp only [List.set] at R9
  have B9 : Below w.heap.size w ((((((((((w.alloc (.cells #[Value.slice a1 l0.length c1, .slice a2 ws0.length c2, .int .i64 left, .bool down] 50)).alloc (.cells #[Value.int .i64 0, .int .i64 0, .int .u64 0, .slice none 0 0, .int .i64 0, .int .i64 0, .int .i64 0, .int .i64 0] 55)).setCell ⟨w.heap.size + 1, 0, none⟩ (.int .i64 0)).setCell ⟨w.heap.size + 1, 1, none⟩ (.int .i64 0)).setCell ⟨w.heap.size + 1, 2, none⟩ (.int .u64 0)).setCell ⟨w.heap.size + 1, 3, none⟩ (.slice none 0 0)).setCell ⟨w.heap.size + 1, 4, none⟩ (.int .i64 0)).setCell ⟨w.heap.size + 1, 5, none⟩ (.int .i64 0)).setCell ⟨w.heap.size + 1, 6, none⟩ (.int .i64 0)).setCell ⟨w.heap.size + 1, 7, none⟩ (.int .i64 0)) := ((((((((B2.setCell (p := ⟨w.heap.size + 1, 0, none⟩) (by simp) (.int .i64 0)).setCell (p := ⟨w.heap.size + 1, 1, none⟩) (by simp) (.int .i64 0)).setCell (p := ⟨w.heap.size + 1, 2, none⟩) (by simp) (.int .u64 0)).setCell (p := ⟨w.heap.size + 1, 3, none⟩) (by simp) (.slice none 0 0)).setCell (p := ⟨w.heap.size + 1, 4, none⟩) (by simp) (.int .i64 0)).setCell (p := ⟨w.heap.size + 1, 5, none⟩) (by simp) (.int .i64 0)).setCell (p := ⟨w.heap.size + 1, 6, none⟩) (by simp) (.int .i64 0)).setCell (p := ⟨w.heap.size + 1, 7, none⟩) (by simp) (.int .i64 0))
  have HR9 := Go.Lib.hid R9; have HB9 := Go.Lib.hid B9
  clear R9 B9
  have d0 := r6.cell 0 _ rfl
  have f0 := r6.free 0
  have d1 := r6.cell 1 _ rfl
  have f1 := r6.free 1
  have d2 := r6.cell 2 _ rfl
  have f2 := r6.free 2
  have d3 := r6.cell 3 _ rfl
  have f3 := r6.free 3
  have d4 := r6.cell 4 _ rfl
  have f4 := r6.free 4
  have d5 := r6.cell 5 _ rfl
  have f5 := r6.free 5
  have d6 := r6.cell 6 _ rfl
  have f6 := r6.free 6
  have d7 := r6.cell 7 _ rfl
  have f7 := r6.free 7
  go_enter Try.func23, Try.ntmps23
  go_wp2_with fail
  clear d0 f0 d1 f1 d2 f2 d3 f3 d4 f4 d5 f5 d6 f6 d7 f7
  generalize ((((((((((w.alloc (.cells #[Value.slice a1 l0.length c1, .slice a2 ws0.length c2, .int .i64 left, .bool down] 50)).alloc (.cells #[Value.int .i64 0, .int .i64 0, .int .u64 0, .slice none 0 0, .int .i64 0, .int .i64 0, .int .i64 0, .int .i64 0] 55)).setCell ⟨w.heap.size + 1, 0, none⟩ (.int .i64 0)).setCell ⟨w.heap.size + 1, 1, none⟩ (.int .i64 0)).setCell ⟨w.heap.size + 1, 2, none⟩ (.int .u64 0)).setCell ⟨w.heap.size + 1, 3, none⟩ (.slice none 0 0)).setCell ⟨w.heap.size + 1, 4, none⟩ (.int .i64 0)).setCell ⟨w.heap.size + 1, 5, none⟩ (.int .i64 0)).setCell ⟨w.heap.size + 1, 6, none⟩ (.int .i64 0)).setCell ⟨w.heap.size + 1, 7, none⟩ (.int .i64 0)) = w9 at *
  have R9 := HR9.out
  have d0 := R9.cell 0 _ rfl
  have d1 := R9.cell 1 _ rfl
  have d2 := R9.cell 2 _ rfl
  have d3 := R9.cell 3 _ rfl
  have d4 := R9.cell 4 _ rfl
  have d5 := R9.cell 5 _ rfl
  have d6 := R9.cell 6 _ rfl
  have d7 := R9.cell 7 _ rfl
  have hlt9 := R9.lt
  refine bodyPost_ret (v := .tuple #[.agg #[Value.int .i64 0, .int .i64 0, .int .u64 0, .slice none 0 0, .int .i64 0, .int .i64 0, .int .i64 0, .int .i64 0], .int .i64 1]) (by simp [results, Try.results23, go_sem, d0, d1, d2, d3, d4, d5, d6, d7, hlt9]) rfl ?_
  first
    | exact open_no HQ.out (by decide) B2
    | exact open_no HQ.out (by decide) HB9.out

set_option maxRecDepth 100000 in
set_option maxHeartbeats 16000000 in
theorem ropen_a2 (w : World) (l0 : List (List UInt8)) (ws0 : List (Nat × List UInt8)) (left : Int) (down : Bool) (a1 a2 : Option Addr) (c1 c2 : Nat) (h1 : Rd 1 w a1 l0.length c1 (strsL l0)) (h2 : Rd 2 w a2 ws0.length c2 (wsL ws0)) (hln : l0.length ≤ 65536) (hw : ws0.length ≤ 100000) (frm n : Int) (h0 : ¬ frm < 0) (h : n < 1) :
    Calls Try.prog 23 #[.agg #[Value.slice a1 l0.length c1, .slice a2 ws0.length c2, .int .i64 left, .bool down], .int .i64 frm, .int .i64 n] w (OpenR w ⟨l0, ws0, left, down⟩ frm n) := by
  have hbd1 := h1.bound
  have r3 : Rw ((w.alloc (.cells #[Value.slice a1 l0.length c1, .slice a2 ws0.length c2, .int .i64 left, .bool down] 50)).alloc (.cells #[Value.int .i64 0, .int .i64 0, .int .u64 0, .slice none 0 0, .int .i64 0, .int .i64 0, .int .i64 0, .int .i64 0] 55)) w.heap.size [Value.slice a1 l0.length c1, .slice a2 ws0.length c2, .int .i64 left, .bool down] 50 := (rw_new w [Value.slice a1 l0.length c1, .slice a2 ws0.length c2, .int .i64 left, .bool down] 50 rfl).below (oneB' _ _)
  have r6 : Rw ((w.alloc (.cells #[Value.slice a1 l0.length c1, .slice a2 ws0.length c2, .int .i64 left, .bool down] 50)).alloc (.cells #[Value.int .i64 0, .int .i64 0, .int .u64 0, .slice none 0 0, .int .i64 0, .int .i64 0, .int .i64 0, .int .i64 0] 55)) (w.heap.size + 1) [Value.int .i64 0, .int .i64 0, .int .u64 0, .slice none 0 0, .int .i64 0, .int .i64 0, .int .i64 0, .int .i64 0] 55 := rw_new (w.alloc (.cells #[Value.slice a1 l0.length c1, .slice a2 ws0.length c2, .int .i64 left, .bool down] 50)) [Value.int .i64 0, .int .i64 0, .int .u64 0, .slice none 0 0, .int .i64 0, .int .i64 0, .int .i64 0, .int .i64 0] 55 (by simp)
  have B2 : Below w.heap.size w ((w.alloc (.cells #[Value.slice a1 l0.length c1, .slice a2 ws0.length c2, .int .i64 left, .bool down] 50)).alloc (.cells #[Value.int .i64 0, .int .i64 0, .int .u64 0, .slice none 0 0, .int .i64 0, .int .i64 0, .int .i64 0, .int .i64 0] 55)) := (oneB' w _).alloc (oneB' w _).size _
  have hq := openE_arg (D := ⟨l0, ws0, left, down⟩) (frm := frm) (n := n) (.inr (.inl h))
  have HQ := Go.Lib.hid hq
  clear hq
  have hd0 := decide_eq_false h0
  have hd := decide_eq_true h
  have b0 := r3.cell 0 _ rfl
  have hz0 := r3.free 0
  have R9 := ((((((((r6.set 0 (.int .i64 0)).set 1 (.int .i64 0)).set 2 (.int .u64 0)).set 3 (.slice none 0 0)).set 4 (.int .i64 0)).set 5 (.int .i64 0)).set 6 (.int .i64 0)).set 7 (.int .i64 0))
  simp only [List.set] at R9
  have B9 : Below w.heap.size w ((((((((((w.alloc (.cells #[Value.slice a1 l0.length c1, .slice a2 ws0.length c2, .int .i64 left, .bool down] 50)).alloc (.cells #[Value.int .i64 0, .int .i64 0, .int .u64 0, .slice none 0 0, .int .i64 0, .int .i64 0, .int .i64 0, .int .i64 0] 55)).setCell ⟨w.heap.size + 1, 0, none⟩ (.int .i64 0)).setCell ⟨w.heap.size + 1, 1, none⟩ (.int .i64 0)).setCell ⟨w.heap.size + 1, 2, none⟩ (.int .u64 0)).setCell ⟨w.heap.size + 1, 3, none⟩ (.slice none 0 0)).setCell ⟨w.heap.size + 1, 4, none⟩ (.int .i64 0)).setCell ⟨w.heap.size + 1, 5, none⟩ (.int .i64 0)).setCell ⟨w.heap.size + 1, 6, none⟩ (.int .i64 0)).setCell ⟨w.heap.size + 1, 7, none⟩ (.int .i64 0)) := ((((((((B2.setCell (p := ⟨w.heap.size + 1, 0, none⟩) (by simp) (.int .i64 0)).setCell (p := ⟨w.heap.size + 1, 1, none⟩) (by simp) (.int .i64 0)).setCell (p := ⟨w.heap.size + 1, 2, none⟩) (by simp) (.int .u64 0)).setCell (p := ⟨w.heap.size + 1, 3, none⟩) (by simp) (.slice none 0 0)).setCell (p := ⟨w.heap.size + 1, 4, none⟩) (by simp) (.int .i64 0)).setCell (p := ⟨w.heap.size + 1, 5, none⟩) (by simp) (.int .i64 0)).setCell (p := ⟨w.heap.size + 1, 6, none⟩) (by simp) (.int .i64 0)).setCell (p := ⟨w.heap.size + 1, 7, none⟩) (by simp) (.int .i64 0))
  have HR9 := Go.Lib.hid R9; have HB9 := Go.Lib.hid B9
  clear R9 B9
  have d0 := r6.cell 0 _ rfl
  have f0 := r6.free 0
  have d1 := r6.cell 1 _ rfl
  have f1 := r6.free 1
  have d2 := r6.cell 2 _ rfl
  have f2 := r6.free 2
  have d3 := r6.cell 3 _ rfl
  have f3 := r6.free 3
  have d4 := r6.cell 4 _ rfl
  have f4 := r6.free 4
  have d5 := r6.cell 5 _ rfl
  have f5 := r6.free 5
  have d6 := r6.cell 6 _ rfl
  have f6 := r6.free 6
  have d7 := r6.cell 7 _ rfl
  have f7 := r6.free 7
  go_enter Try.func23, Try.ntmps23
  go_wp2_with fail
  clear d0 f0 d1 f1 d2 f2 d3 f3 d4 f4 d5 f5 d6 f6 d7 f7
  generalize ((((((((((w.alloc (.cells #[Value.slice a1 l0.length c1, .slice a2 ws0.length c2, .int .i64 left, .bool down] 50)).alloc (.cells #[Value.int .i64 0, .int .i64 0, .int .u64 0, .slice none 0 0, .int .i64 0, .int .i64 0, .int .i64 0, .int .i64 0] 55)).setCell ⟨w.heap.size + 1, 0, none⟩ (.int .i64 0)).setCell ⟨w.heap.size + 1, 1, none⟩ (.int .i64 0)).setCell ⟨w.heap.size + 1, 2, none⟩ (.int .u64 0)).setCell ⟨w.heap.size + 1, 3, none⟩ (.slice none 0 0)).setCell ⟨w.heap.size + 1, 4, none⟩ (.int .i64 0)).setCell ⟨w.heap.size + 1, 5, none⟩ (.int .i64 0)).setCell ⟨w.heap.size + 1, 6, none⟩ (.int .i64 0)).setCell ⟨w.heap.size + 1, 7, none⟩ (.int .i64 0)) = w9 at *
  have R9 := HR9.out
  have d0 := R9.cell 0 _ rfl
  have d1 := R9.cell 1 _ rfl
  have d2 := R9.cell 2 _ rfl
  have d3 := R9.cell 3 _ rfl
  have d4 := R9.cell 4 _ rfl
  have d5 := R9.cell 5 _ rfl
  have d6 := R9.cell 6 _ rfl
  have d7 := R9.cell 7 _ rfl
  have hlt9 := R9.lt
  refine bodyPost_ret (v := .tuple #[.agg #[Value.int .i64 0, .int .i64 0, .int .u64 0, .slice none 0 0, .int .i64 0, .int .i64 0, .int .i64 0, .int .i64 0], .int .i64 1]) (by simp [results, Try.results23, go_sem, d0, d1, d2, d3, d4, d5, d6, d7, hlt9]) rfl ?_
  first
    | exact open_no HQ.out (by decide) B2
    | exact open_no HQ.out (by decide) HB9.out

set_option maxRecDepth 100000 in
set_option maxHeartbeats 16000000 in
theorem ropen_a3 (w : World) (l0 : List (List UInt8)) (ws0 : List (Nat × List UInt8)) (left : Int) (down : Bool) (a1 a2 : Option Addr) (c1 c2 : Nat) (h1 : Rd 1 w a1 l0.length c1 (strsL l0)) (h2 : Rd 2 w a2 ws0.length c2 (wsL ws0)) (hln : l0.length ≤ 65536) (hw : ws0.length ≤ 100000) (frm n : Int) (h0 : ¬ frm < 0) (h0' : ¬ n < 1) (h : (l0.length : Int) < frm) :
    Calls Try.prog 23 #[.agg #[Value.slice a1 l0.length c1, .slice a2 ws0.length c2, .int .i64 left, .bool down], .int .i64 frm, .int .i64 n] w (OpenR w ⟨l0, ws0, left, down⟩ frm n) := by
  have hbd1 := h1.bound
  have r3 : Rw ((w.alloc (.cells #[Value.slice a1 l0.length c1, .slice a2 ws0.length c2, .int .i64 left, .bool down] 50)).alloc (.cells #[Value.int .i64 0, .int .i64 0, .int .u64 0, .slice none 0 0, .int .i64 0, .int .i64 0, .int .i64 0, .int .i64 0] 55)) w.heap.size [Value.slice a1 l0.length c1, .slice a2 ws0.length c2, .int .i64 left, .bool down] 50 := (rw_new w [Value.slice a1 l0.length c1, .slice a2 ws0.length c2, .int .i64 left, .bool down] 50 rfl).below (oneB' _ _)
  have r6 : Rw ((w.alloc (.cells #[Value.slice a1 l0.length c1, .slice a2 ws0.length c2, .int .i64 left, .bool down] 50)).alloc (.cells #[Value.int .i64 0, .int .i64 0, .int .u64 0, .slice none 0 0, .int .i64 0, .int .i64 0, .int .i64 0, .int .i64 0] 55)) (w.heap.size + 1) [Value.int .i64 0, .int .i64 0, .int .u64 0, .slice none 0 0, .int .i64 0, .int .i64 0, .int .i64 0, .int .i64 0] 55 := rw_new (w.alloc (.cells #[Value.slice a1 l0.length c1, .slice a2 ws0.length c2, .int .i64 left, .bool down] 50)) [Value.int .i64 0, .int .i64 0, .int .u64 0, .slice none 0 0, .int .i64 0, .int .i64 0, .int .i64 0, .int .i64 0] 55 (by simp)
  have B2 : Below w.heap.size w ((w.alloc (.cells #[Value.slice a1 l0.length c1, .slice a2 ws0.length c2, .int .i64 left, .bool down] 50)).alloc (.cells #[Value.int .i64 0, .int .i64 0, .int .u64 0, .slice none 0 0, .int .i64 0, .int .i64 0, .int .i64 0, .int .i64 0] 55)) := (oneB' w _).alloc (oneB' w _).size _
  have hq := openE_arg (D := ⟨l0, ws0, left, down⟩) (frm := frm) (n := n) (.inr (.inr (.inl h)))
  have HQ := Go.Lib.hid hq
  clear hq
  have hd0 := decide_eq_false h0
  have hd0' := decide_eq_false h0'
  have hd := decide_eq_true h
  have b0 := r3.cell 0 _ rfl
  have hz0 := r3.free 0
  have R9 := ((((((((r6.set 0 (.int .i64 0)).set 1 (.int .i64 0)).set 2 (.int .u64 0)).set 3 (.slice none 0 0)).set 4 (.int .i64 0)).set 5 (.int .i64 0)).set 6 (.int .i64 0)).set 7 (.int .i64 0))
  simp only [List.set] at R9
  have B9 : Below w.heap.size w ((((((((((w.alloc (.cells #[Value.slice a1 l0.length c1, .slice a2 ws0.length c2, .int .i64 left, .bool down] 50)).alloc (.cells #[Value.int .i64 0, .int .i64 0, .int .u64 0, .slice none 0 0, .int .i64 0, .int .i64 0, .int .i64 0, .int .i64 0] 55)).setCell ⟨w.heap.size + 1, 0, none⟩ (.int .i64 0)).setCell ⟨w.heap.size + 1, 1, none⟩ (.int .i64 0)).setCell ⟨w.heap.size + 1, 2, none⟩ (.int .u64 0)).setCell ⟨w.heap.size + 1, 3, none⟩ (.slice none 0 0)).setCell ⟨w.heap.size + 1, 4, none⟩ (.int .i64 0)).setCell ⟨w.heap.size + 1, 5, none⟩ (.int .i64 0)).setCell ⟨w.heap.size + 1, 6, none⟩ (.int .i64 0)).setCell ⟨w.heap.size + 1, 7, none⟩ (.int .i64 0)) := ((((((((B2.setCell (p := ⟨w.heap.size + 1, 0, none⟩) (by simp) (.int .i64 0)).setCell (p := ⟨w.heap.size + 1, 1, none⟩) (by simp) (.int .i64 0)).setCell (p := ⟨w.heap.size + 1, 2, none⟩) (by simp) (.int .u64 0)).setCell (p := ⟨w.heap.size + 1, 3, none⟩) (by simp) (.slice none 0 0)).setCell (p := ⟨w.heap.size + 1, 4, none⟩) (by simp) (.int .i64 0)).setCell (p := ⟨w.heap.size + 1, 5, none⟩) (by simp) (.int .i64 0)).setCell (p := ⟨w.heap.size + 1, 6, none⟩) (by simp) (.int .i64 0)).setCell (p := ⟨w.heap.size + 1, 7, none⟩) (by simp) (.int .i64 0))
  have HR9 := Go.Lib.hid R9; have HB9 := Go.Lib.hid B9
  clear R9 B9
  have d0 := r6.cell 0 _ rfl
  have f0 := r6.free 0
  have d1 := r6.cell 1 _ rfl
  have f1 := r6.free 1
  have d2 := r6.cell 2 _ rfl
  have f2 := r6.free 2
  have d3 := r6.cell 3 _ rfl
  have f3 := r6.free 3
  have d4 := r6.cell 4 _ rfl
  have f4 := r6.free 4
  have d5 := r6.cell 5 _ rfl
  have f5 := r6.free 5
  have d6 := r6.cell 6 _ rfl
  have f6 := r6.free 6
  have d7 := r6.cell 7 _ rfl
  have f7 := r6.free 7
  go_enter Try.func23, Try.ntmps23
  go_wp2_with fail
  clear d0 f0 d1 f1 d2 f2 d3 f3 d4 f4 d5 f5 d6 f6 d7 f7
  generalize ((((((((((w.alloc (.cells #[Value.slice a1 l0.length c1, .slice a2 ws0.length c2, .int .i64 left, .bool down] 50)).alloc (.cells #[Value.int .i64 0, .int .i64 0, .int .u64 0, .slice none 0 0, .int .i64 0, .int .i64 0, .int .i64 0, .int .i64 0] 55)).setCell ⟨w.heap.size + 1, 0, none⟩ (.int .i64 0)).setCell ⟨w.heap.size + 1, 1, none⟩ (.int .i64 0)).setCell ⟨w.heap.size + 1, 2, none⟩ (.int .u64 0)).setCell ⟨w.heap.size + 1, 3, none⟩ (.slice none 0 0)).setCell ⟨w.heap.size + 1, 4, none⟩ (.int .i64 0)).setCell ⟨w.heap.size + 1, 5, none⟩ (.int .i64 0)).setCell ⟨w.heap.size + 1, 6, none⟩ (.int .i64 0)).setCell ⟨w.heap.size + 1, 7, none⟩ (.int .i64 0)) = w9 at *
  have R9 := HR9.out
  have d0 := R9.cell 0 _ rfl
  have d1 := R9.cell 1 _ rfl
  have d2 := R9.cell 2 _ rfl
  have d3 := R9.cell 3 _ rfl
  have d4 := R9.cell 4 _ rfl
  have d5 := R9.cell 5 _ rfl
  have d6 := R9.cell 6 _ rfl
  have d7 := R9.cell 7 _ rfl
  have hlt9 := R9.lt
  refine bodyPost_ret (v := .tuple #[.agg #[Value.int .i64 0, .int .i64 0, .int .u64 0, .slice none 0 0, .int .i64 0, .int .i64 0, .int .i64 0, .int .i64 0], .int .i64 1]) (by simp [results, Try.results23, go_sem, d0, d1, d2, d3, d4, d5, d6, d7, hlt9]) rfl ?_
  first
    | exact open_no HQ.out (by decide) B2
    | exact open_no HQ.out (by decide) HB9.out

set_option maxRecDepth 100000 in
set_option maxHeartbeats 16000000 in
theorem ropen_a4 (w : World) (l0 : List (List UInt8)) (ws0 : List (Nat × List UInt8)) (left : Int) (down : Bool) (a1 a2 : Option Addr) (c1 c2 : Nat) (h1 : Rd 1 w a1 l0.length c1 (strsL l0)) (h2 : Rd 2 w a2 ws0.length c2 (wsL ws0)) (hln : l0.length ≤ 65536) (hw : ws0.length ≤ 100000) (frm n : Int) (h0 : ¬ frm < 0) (h0' : ¬ n < 1) (h0'' : ¬ (l0.length : Int) < frm) (hf : frm ≤ 9223372036854775807) (h : (l0.length : Int) - frm < n) :
    Calls Try.prog 23 #[.agg #[Value.slice a1 l0.length c1, .slice a2 ws0.length c2, .int .i64 left, .bool down], .int .i64 frm, .int .i64 n] w (OpenR w ⟨l0, ws0, left, down⟩ frm n) := by
  have hbd1 := h1.bound
  have r3 : Rw ((w.alloc (.cells #[Value.slice a1 l0.length c1, .slice a2 ws0.length c2, .int .i64 left, .bool down] 50)).alloc (.cells #[Value.int .i64 0, .int .i64 0, .int .u64 0, .slice none 0 0, .int .i64 0, .int .i64 0, .int .i64 0, .int .i64 0] 55)) w.heap.size [Value.slice a1 l0.length c1, .slice a2 ws0.length c2, .int .i64 left, .bool down] 50 := (rw_new w [Value.slice a1 l0.length c1, .slice a2 ws0.length c2, .int .i64 left, .bool down] 50 rfl).below (oneB' _ _)
  have r6 : Rw ((w.alloc (.cells #[Value.slice a1 l0.length c1, .slice a2 ws0.length c2, .int .i64 left, .bool down] 50)).alloc (.cells #[Value.int .i64 0, .int .i64 0, .int .u64 0, .slice none 0 0, .int .i64 0, .int .i64 0, .int .i64 0, .int .i64 0] 55)) (w.heap.size + 1) [Value.int .i64 0, .int .i64 0, .int .u64 0, .slice none 0 0, .int .i64 0, .int .i64 0, .int .i64 0, .int .i64 0] 55 := rw_new (w.alloc (.cells #[Value.slice a1 l0.length c1, .slice a2 ws0.length c2, .int .i64 left, .bool down] 50)) [Value.int .i64 0, .int .i64 0, .int .u64 0, .slice none 0 0, .int .i64 0, .int .i64 0, .int .i64 0, .int .i64 0] 55 (by simp)
  have B2 : Below w.heap.size w ((w.alloc (.cells #[Value.slice a1 l0.length c1, .slice a2 ws0.length c2, .int .i64 left, .bool down] 50)).alloc (.cells #[Value.int .i64 0, .int .i64 0, .int .u64 0, .slice none 0 0, .int .i64 0, .int .i64 0, .int .i64 0, .int .i64 0] 55)) := (oneB' w _).alloc (oneB' w _).size _
  have hq := openE_arg (D := ⟨l0, ws0, left, down⟩) (frm := frm) (n := n) (.inr (.inr (.inr h)))
  have HQ := Go.Lib.hid hq
  clear hq
  have hd0 := decide_eq_false h0
  have hd0' := decide_eq_false h0'
  have hd0'' := decide_eq_false h0''
  have hd := decide_eq_true h
  have b0 := r3.cell 0 _ rfl
  have hz0 := r3.free 0
  have R9 := ((((((((r6.set 0 (.int .i64 0)).set 1 (.int .i64 0)).set 2 (.int .u64 0)).set 3 (.slice none 0 0)).set 4 (.int .i64 0)).set 5 (.int .i64 0)).set 6 (.int .i64 0)).set 7 (.int .i64 0))
  simp only [List.set] at R9
  have B9 : Below w.heap.size w ((((((((((w.alloc (.cells #[Value.slice a1 l0.length c1, .slice a2 ws0.length c2, .int .i64 left, .bool down] 50)).alloc (.cells #[Value.int .i64 0, .int .i64 0, .int .u64 0, .slice none 0 0, .int .i64 0, .int .i64 0, .int .i64 0, .int .i64 0] 55)).setCell ⟨w.heap.size + 1, 0, none⟩ (.int .i64 0)).setCell ⟨w.heap.size + 1, 1, none⟩ (.int .i64 0)).setCell ⟨w.heap.size + 1, 2, none⟩ (.int .u64 0)).setCell ⟨w.heap.size + 1, 3, none⟩ (.slice none 0 0)).setCell ⟨w.heap.size + 1, 4, none⟩ (.int .i64 0)).setCell ⟨w.heap.size + 1, 5, none⟩ (.int .i64 0)).setCell ⟨w.heap.size + 1, 6, none⟩ (.int .i64 0)).setCell ⟨w.heap.size + 1, 7, none⟩ (.int .i64 0)) := ((((((((B2.setCell (p := ⟨w.heap.size + 1, 0, none⟩) (by simp) (.int .i64 0)).setCell (p := ⟨w.heap.size + 1, 1, none⟩) (by simp) (.int .i64 0)).setCell (p := ⟨w.heap.size + 1, 2, none⟩) (by simp) (.int .u64 0)).setCell (p := ⟨w.heap.size + 1, 3, none⟩) (by simp) (.slice none 0 0)).setCell (p := ⟨w.heap.size + 1, 4, none⟩) (by simp) (.int .i64 0)).setCell (p := ⟨w.heap.size + 1, 5, none⟩) (by simp) (.int .i64 0)).setCell (p := ⟨w.heap.size + 1, 6, none⟩) (by simp) (.int .i64 0)).setCell (p := ⟨w.heap.size + 1, 7, none⟩) (by simp) (.int .i64 0))
  have HR9 := Go.Lib.hid R9; have HB9 := Go.Lib.hid B9
  clear R9 B9
  have d0 := r6.cell 0 _ rfl
  have f0 := r6.free 0
  have d1 := r6.cell 1 _ rfl
  have f1 := r6.free 1
  have d2 := r6.cell 2 _ rfl
  have f2 := r6.free 2
  have d3 := r6.cell 3 _ rfl
  have f3 := r6.free 3
  have d4 := r6.cell 4 _ rfl
  have f4 := r6.free 4
  have d5 := r6.cell 5 _ rfl
  have f5 := r6.free 5
  have d6 := r6.cell 6 _ rfl
  have f6 := r6.free 6
  have d7 := r6.cell 7 _ rfl
  have f7 := r6.free 7
  go_enter Try.func23, Try.ntmps23
  go_wp2_with fail
  clear d0 f0 d1 f1 d2 f2 d3 f3 d4 f4 d5 f5 d6 f6 d7 f7
  generalize ((((((((((w.alloc (.cells #[Value.slice a1 l0.length c1, .slice a2 ws0.length c2, .int .i64 left, .bool down] 50)).alloc (.cells #[Value.int .i64 0, .int .i64 0, .int .u64 0, .slice none 0 0, .int .i64 0, .int .i64 0, .int .i64 0, .int .i64 0] 55)).setCell ⟨w.heap.size + 1, 0, none⟩ (.int .i64 0)).setCell ⟨w.heap.size + 1, 1, none⟩ (.int .i64 0)).setCell ⟨w.heap.size + 1, 2, none⟩ (.int .u64 0)).setCell ⟨w.heap.size + 1, 3, none⟩ (.slice none 0 0)).setCell ⟨w.heap.size + 1, 4, none⟩ (.int .i64 0)).setCell ⟨w.heap.size + 1, 5, none⟩ (.int .i64 0)).setCell ⟨w.heap.size + 1, 6, none⟩ (.int .i64 0)).setCell ⟨w.heap.size + 1, 7, none⟩ (.int .i64 0)) = w9 at *
  have R9 := HR9.out
  have d0 := R9.cell 0 _ rfl
  have d1 := R9.cell 1 _ rfl
  have d2 := R9.cell 2 _ rfl
  have d3 := R9.cell 3 _ rfl
  have d4 := R9.cell 4 _ rfl
  have d5 := R9.cell 5 _ rfl
  have d6 := R9.cell 6 _ rfl
  have d7 := R9.cell 7 _ rfl
  have hlt9 := R9.lt
  refine bodyPost_ret (v := .tuple #[.agg #[Value.int .i64 0, .int .i64 0, .int .u64 0, .slice none 0 0, .int .i64 0, .int .i64 0, .int .i64 0, .int .i64 0], .int .i64 1]) (by simp [results, Try.results23, go_sem, d0, d1, d2, d3, d4, d5, d6, d7, hlt9]) rfl ?_
  first
    | exact open_no HQ.out (by decide) B2
    | exact open_no HQ.out (by decide) HB9.out

set_option maxRecDepth 100000 in
set_option maxHeartbeats 16000000 in
theorem ropen_down (w : World) (l0 : List (List UInt8)) (ws0 : List (Nat × List UInt8)) (left : Int) (down : Bool) (a1 a2 : Option Addr) (c1 c2 : Nat) (h1 : Rd 1 w a1 l0.length c1 (strsL l0)) (h2 : Rd 2 w a2 ws0.length c2 (wsL ws0)) (hln : l0.length ≤ 65536) (hw : ws0.length ≤ 100000) (F N : Nat) (hN : 1 ≤ N) (hF : F + N ≤ l0.length) (hd : down = true) :
    Calls Try.prog 23 #[.agg #[Value.slice a1 l0.length c1, .slice a2 ws0.length c2, .int .i64 left, .bool down], .int .i64 (F : Int), .int .i64 (N : Int)] w (OpenR w ⟨l0, ws0, left, down⟩ (F : Int) (N : Int)) := by
  have hbd1 := h1.bound
  have r3 : Rw ((w.alloc (.cells #[Value.slice a1 l0.length c1, .slice a2 ws0.length c2, .int .i64 left, .bool down] 50)).alloc (.cells #[Value.int .i64 0, .int .i64 0, .int .u64 0, .slice none 0 0, .int .i64 0, .int .i64 0, .int .i64 0, .int .i64 0] 55)) w.heap.size [Value.slice a1 l0.length c1, .slice a2 ws0.length c2, .int .i64 left, .bool down] 50 := (rw_new w [Value.slice a1 l0.length c1, .slice a2 ws0.length c2, .int .i64 left, .bool down] 50 rfl).below (oneB' _ _)
  have r6 : Rw ((w.alloc (.cells #[Value.slice a1 l0.length c1, .slice a2 ws0.length c2, .int .i64 left, .bool down] 50)).alloc (.cells #[Value.int .i64 0, .int .i64 0, .int .u64 0, .slice none 0 0, .int .i64 0, .int .i64 0, .int .i64 0, .int .i64 0] 55)) (w.heap.size + 1) [Value.int .i64 0, .int .i64 0, .int .u64 0, .slice none 0 0, .int .i64 0, .int .i64 0, .int .i64 0, .int .i64 0] 55 := rw_new (w.alloc (.cells #[Value.slice a1 l0.length c1, .slice a2 ws0.length c2, .int .i64 left, .bool down] 50)) [Value.int .i64 0, .int .i64 0, .int .u64 0, .slice none 0 0, .int .i64 0, .int .i64 0, .int .i64 0, .int .i64 0] 55 (by simp)
  have B2 : Below w.heap.size w ((w.alloc (.cells #[Value.slice a1 l0.length c1, .slice a2 ws0.length c2, .int .i64 left, .bool down] 50)).alloc (.cells #[Value.int .i64 0, .int .i64 0, .int .u64 0, .slice none 0 0, .int .i64 0, .int .i64 0, .int .i64 0, .int .i64 0] 55)) := (oneB' w _).alloc (oneB' w _).size _
  subst hd
  have hq := openE_down (D := ⟨l0, ws0, left, true⟩) (frm := (F : Int)) (n := (N : Int)) (by simp only; omega) rfl
  have HQ := Go.Lib.hid hq
  clear hq
  have hg1 : ¬ (F : Int) < 0 := by omega
  have hg2 : ¬ (N : Int) < 1 := by omega
  have hg3 : ¬ (l0.length : Int) < (F : Int) := by omega
  have hg4 : ¬ (l0.length : Int) - (F : Int) < (N : Int) := by omega
  have hgd1 := decide_eq_false hg1
  have hgd2 := decide_eq_false hg2
  have hgd3 : decide ((l0.length : Int) < (F : Int)) = false := decide_eq_false hg3
  have hgd3n : decide (l0.length < F) = false := decide_eq_false (by omega)
  have hgd4 := decide_eq_false hg4
  have hgd2n : decide (N < 1) = false := decide_eq_false (by omega)
  have hgd2z : decide (N = 0) = false := decide_eq_false (by omega)
  have b0 := r3.cell 0 _ rfl
  have hz0 := r3.free 0
  have b1 := r3.cell 1 _ rfl
  have hz1 := r3.free 1
  have b2 := r3.cell 2 _ rfl
  have hz2 := r3.free 2
  have b3 := r3.cell 3 _ rfl
  have hz3 := r3.free 3
  have R9 := ((((((((r6.set 0 (.int .i64 0)).set 1 (.int .i64 0)).set 2 (.int .u64 0)).set 3 (.slice none 0 0)).set 4 (.int .i64 0)).set 5 (.int .i64 0)).set 6 (.int .i64 0)).set 7 (.int .i64 0))
  simp only [List.set] at R9
  have B9 : Below w.heap.size w ((((((((((w.alloc (.cells #[Value.slice a1 l0.length c1, .slice a2 ws0.length c2, .int .i64 left, .bool true] 50)).alloc (.cells #[Value.int .i64 0, .int .i64 0, .int .u64 0, .slice none 0 0, .int .i64 0, .int .i64 0, .int .i64 0, .int .i64 0] 55)).setCell ⟨w.heap.size + 1, 0, none⟩ (.int .i64 0)).setCell ⟨w.heap.size + 1, 1, none⟩ (.int .i64 0)).setCell ⟨w.heap.size + 1, 2, none⟩ (.int .u64 0)).setCell ⟨w.heap.size + 1, 3, none⟩ (.slice none 0 0)).setCell ⟨w.heap.size + 1, 4, none⟩ (.int .i64 0)).setCell ⟨w.heap.size + 1, 5, none⟩ (.int .i64 0)).setCell ⟨w.heap.size + 1, 6, none⟩ (.int .i64 0)).setCell ⟨w.heap.size + 1, 7, none⟩ (.int .i64 0)) := ((((((((B2.setCell (p := ⟨w.heap.size + 1, 0, none⟩) (by simp) (.int .i64 0)).setCell (p := ⟨w.heap.size + 1, 1, none⟩) (by simp) (.int .i64 0)).setCell (p := ⟨w.heap.size + 1, 2, none⟩) (by simp) (.int .u64 0)).setCell (p := ⟨w.heap.size + 1, 3, none⟩) (by simp) (.slice none 0 0)).setCell (p := ⟨w.heap.size + 1, 4, none⟩) (by simp) (.int .i64 0)).setCell (p := ⟨w.heap.size + 1, 5, none⟩) (by simp) (.int .i64 0)).setCell (p := ⟨w.heap.size + 1, 6, none⟩) (by simp) (.int .i64 0)).setCell (p := ⟨w.heap.size + 1, 7, none⟩) (by simp) (.int .i64 0))
  have HR9 := Go.Lib.hid R9; have HB9 := Go.Lib.hid B9
  clear R9 B9
  have d0 := r6.cell 0 _ rfl
  have f0 := r6.free 0
  have d1 := r6.cell 1 _ rfl
  have f1 := r6.free 1
  have d2 := r6.cell 2 _ rfl
  have f2 := r6.free 2
  have d3 := r6.cell 3 _ rfl
  have f3 := r6.free 3
  have d4 := r6.cell 4 _ rfl
  have f4 := r6.free 4
  have d5 := r6.cell 5 _ rfl
  have f5 := r6.free 5
  have d6 := r6.cell 6 _ rfl
  have f6 := r6.free 6
  have d7 := r6.cell 7 _ rfl
  have f7 := r6.free 7
  go_enter Try.func23, Try.ntmps23
  go_wp2_with fail
  clear d0 f0 d1 f1 d2 f2 d3 f3 d4 f4 d5 f5 d6 f6 d7 f7
  generalize ((((((((((w.alloc (.cells #[Value.slice a1 l0.length c1, .slice a2 ws0.length c2, .int .i64 left, .bool true] 50)).alloc (.cells #[Value.int .i64 0, .int .i64 0, .int .u64 0, .slice none 0 0, .int .i64 0, .int .i64 0, .int .i64 0, .int .i64 0] 55)).setCell ⟨w.heap.size + 1, 0, none⟩ (.int .i64 0)).setCell ⟨w.heap.size + 1, 1, none⟩ (.int .i64 0)).setCell ⟨w.heap.size + 1, 2, none⟩ (.int .u64 0)).setCell ⟨w.heap.size + 1, 3, none⟩ (.slice none 0 0)).setCell ⟨w.heap.size + 1, 4, none⟩ (.int .i64 0)).setCell ⟨w.heap.size + 1, 5, none⟩ (.int .i64 0)).setCell ⟨w.heap.size + 1, 6, none⟩ (.int .i64 0)).setCell ⟨w.heap.size + 1, 7, none⟩ (.int .i64 0)) = w9 at *
  have R9 := HR9.out
  have d0 := R9.cell 0 _ rfl
  have d1 := R9.cell 1 _ rfl
  have d2 := R9.cell 2 _ rfl
  have d3 := R9.cell 3 _ rfl
  have d4 := R9.cell 4 _ rfl
  have d5 := R9.cell 5 _ rfl
  have d6 := R9.cell 6 _ rfl
  have d7 := R9.cell 7 _ rfl
  have hlt9 := R9.lt
  refine bodyPost_ret (v := .tuple #[.agg #[Value.int .i64 0, .int .i64 0, .int .u64 0, .slice none 0 0, .int .i64 0, .int .i64 0, .int .i64 0, .int .i64 0], .int .i64 20]) (by simp [results, Try.results23, go_sem, d0, d1, d2, d3, d4, d5, d6, d7, hlt9]) rfl ?_
  first
    | exact open_no HQ.out (by decide) B2
    | exact open_no HQ.out (by decide) HB9.out

set_option maxRecDepth 100000 in
set_option maxHeartbeats 16000000 in
theorem ropen_good (w : World) (l0 : List (List UInt8)) (ws0 : List (Nat × List UInt8)) (left : Int) (down : Bool) (a1 a2 : Option Addr) (c1 c2 : Nat) (h1 : Rd 1 w a1 l0.length c1 (strsL l0)) (h2 : Rd 2 w a2 ws0.length c2 (wsL ws0)) (hln : l0.length ≤ 65536) (hw : ws0.length ≤ 100000) (F N : Nat) (hN : 1 ≤ N) (hF : F + N ≤ l0.length) (hd : down = false) (h64 : ∀ b ∈ l0, b.length = 64) (hwi : ∀ x ∈ ws0, x.2.length = 64 ∧ x.1 < l0.length) :
    Calls Try.prog 23 #[.agg #[Value.slice a1 l0.length c1, .slice a2 ws0.length c2, .int .i64 left, .bool down], .int .i64 (F : Int), .int .i64 (N : Int)] w (OpenR w ⟨l0, ws0, left, down⟩ (F : Int) (N : Int)) := by
  subst hd
  have hbd1 := h1.bound
  have r3 : Rw ((w.alloc (.cells #[Value.slice a1 l0.length c1, .slice a2 ws0.length c2, .int .i64 left, .bool false] 50)).alloc (.cells #[Value.int .i64 0, .int .i64 0, .int .u64 0, .slice none 0 0, .int .i64 0, .int .i64 0, .int .i64 0, .int .i64 0] 55)) w.heap.size [Value.slice a1 l0.length c1, .slice a2 ws0.length c2, .int .i64 left, .bool false] 50 := (rw_new w [Value.slice a1 l0.length c1, .slice a2 ws0.length c2, .int .i64 left, .bool false] 50 rfl).below (oneB' _ _)
  have r6 : Rw ((w.alloc (.cells #[Value.slice a1 l0.length c1, .slice a2 ws0.length c2, .int .i64 left, .bool false] 50)).alloc (.cells #[Value.int .i64 0, .int .i64 0, .int .u64 0, .slice none 0 0, .int .i64 0, .int .i64 0, .int .i64 0, .int .i64 0] 55)) (w.heap.size + 1) [Value.int .i64 0, .int .i64 0, .int .u64 0, .slice none 0 0, .int .i64 0, .int .i64 0, .int .i64 0, .int .i64 0] 55 := rw_new (w.alloc (.cells #[Value.slice a1 l0.length c1, .slice a2 ws0.length c2, .int .i64 left, .bool false] 50)) [Value.int .i64 0, .int .i64 0, .int .u64 0, .slice none 0 0, .int .i64 0, .int .i64 0, .int .i64 0, .int .i64 0] 55 (by simp)
  have B2 : Below w.heap.size w ((w.alloc (.cells #[Value.slice a1 l0.length c1, .slice a2 ws0.length c2, .int .i64 left, .bool false] 50)).alloc (.cells #[Value.int .i64 0, .int .i64 0, .int .u64 0, .slice none 0 0, .int .i64 0, .int .i64 0, .int .i64 0, .int .i64 0] 55)) := (oneB' w _).alloc (oneB' w _).size _
  have hg1 : ¬ (F : Int) < 0 := by omega
  have hg2 : ¬ (N : Int) < 1 := by omega
  have hg3 : ¬ (l0.length : Int) < (F : Int) := by omega
  have hg4 : ¬ (l0.length : Int) - (F : Int) < (N : Int) := by omega
  have hgd1 := decide_eq_false hg1
  have hgd2 := decide_eq_false hg2
  have hgd3 : decide ((l0.length : Int) < (F : Int)) = false := decide_eq_false hg3
  have hgd3n : decide (l0.length < F) = false := decide_eq_false (by omega)
  have hgd4 := decide_eq_false hg4
  have hgd2n : decide (N < 1) = false := decide_eq_false (by omega)
  have hgd2z : decide (N = 0) = false := decide_eq_false (by omega)
  have b0 := r3.cell 0 _ rfl
  have hz0 := r3.free 0
  have b1 := r3.cell 1 _ rfl
  have hz1 := r3.free 1
  have b2 := r3.cell 2 _ rfl
  have hz2 := r3.free 2
  have b3 := r3.cell 3 _ rfl
  have hz3 := r3.free 3
  obtain ⟨D, hD⟩ : ∃ D : Dk, D = ⟨l0, ws0, left, false⟩ := ⟨_, rfl⟩
  have hDl : D.l = l0 := by rw [hD]
  have hDw : D.waits = ws0 := by rw [hD]
  have hDd : D.down = false := by rw [hD]
  rw [← hD]
  have hR64 := reg_64 (D := D) hDd (by rw [hDl]; exact h64) (by rw [hDl, hDw]; exact hwi) (F := F) (N := N) (by rw [hDl]; exact hF)
  have hRl := reg_len D F N
  have hE := openE_top (D := D) (F := F) (N := N) (by rw [hDl]; omega) hDd rfl
  have hS : openS D (F : Int) (N : Int) = openR F N (regM D F N) := rfl
  have rd := fun w' (hb : Below w.heap.size w w') (i : Int) => rread_any w' a1 l0.length c1 a2 ws0.length c2 D i (by rw [hDl]; exact Rd.below h1 hb) (by rw [hDw]; exact Rd.below h2 hb) (by rw [hDl]; exact hln) (by rw [hDw]; exact hw)
  have rok := fun i (hi : i < N) => rd_ok (D := D) hDd (by rw [hDl]; exact h64) (by rw [hDl, hDw]; exact hwi) (F + i) (by rw [hDl]; omega)
  have hleft : D.left = left := by rw [hD]
  unfold rdV at rd
  rw [hleft, hDd] at rd
  have HRD := Go.Lib.hid rd; have HROK := Go.Lib.hid rok; have HE := Go.Lib.hid hE; have HS := Go.Lib.hid hS; have HR64 := Go.Lib.hid hR64; have HRL := Go.Lib.hid hRl
  clear rd rok hE hS hR64 hRl hD hDl hDw hDd hleft
  have r8 : Rw (((w.alloc (.cells #[Value.slice a1 l0.length c1, .slice a2 ws0.length c2, .int .i64 left, .bool false] 50)).alloc (.cells #[Value.int .i64 0, .int .i64 0, .int .u64 0, .slice none 0 0, .int .i64 0, .int .i64 0, .int .i64 0, .int .i64 0] 55)).alloc (.cells #[Value.int .i64 (F : Int), .int .i64 (N : Int), .int .u64 1, .slice none 0 0, .int .i64 0, .int .i64 0, .int .i64 0, .int .i64 0] 55)) (w.heap.size + 2) [Value.int .i64 (F : Int), .int .i64 (N : Int), .int .u64 1, .slice none 0 0, .int .i64 0, .int .i64 0, .int .i64 0, .int .i64 0] 55 := rw_new ((w.alloc (.cells #[Value.slice a1 l0.length c1, .slice a2 ws0.length c2, .int .i64 left, .bool false] 50)).alloc (.cells #[Value.int .i64 0, .int .i64 0, .int .u64 0, .slice none 0 0, .int .i64 0, .int .i64 0, .int .i64 0, .int .i64 0] 55)) [Value.int .i64 (F : Int), .int .i64 (N : Int), .int .u64 1, .slice none 0 0, .int .i64 0, .int .i64 0, .int .i64 0, .int .i64 0] 55 (by simp)
  have U0 : UO w [Value.slice a1 l0.length c1, .slice a2 ws0.length c2, .int .i64 left, .bool false] [Value.int .i64 (F : Int), .int .i64 (N : Int), .int .u64 1, .slice none 0 0, .int .i64 0, .int .i64 0, .int .i64 0, .int .i64 0] (((w.alloc (.cells #[Value.slice a1 l0.length c1, .slice a2 ws0.length c2, .int .i64 left, .bool false] 50)).alloc (.cells #[Value.int .i64 0, .int .i64 0, .int .u64 0, .slice none 0 0, .int .i64 0, .int .i64 0, .int .i64 0, .int .i64 0] 55)).alloc (.cells #[Value.int .i64 (F : Int), .int .i64 (N : Int), .int .u64 1, .slice none 0 0, .int .i64 0, .int .i64 0, .int .i64 0, .int .i64 0] 55)) := ⟨r3.below (oneB' _ _), r6.below (oneB' _ _), r8, B2.alloc B2.size _⟩
  have HU0 := Go.Lib.hid U0
  clear r6 B2 r8 U0
  go_enter Try.func23, Try.ntmps23
  go_wp2_with fail
  clear hg1 hg2 hg3 hg4 hgd1 hgd2 hgd3 hgd3n hgd4 hgd2n hgd2z
  have U0 := HU0.out
  clear HU0 r3
  clear b0 b1 b2 b3 hz0 hz1 hz2 hz3
  generalize (((w.alloc (.cells #[Value.slice a1 l0.length c1, .slice a2 ws0.length c2, .int .i64 left, .bool false] 50)).alloc (.cells #[Value.int .i64 0, .int .i64 0, .int .u64 0, .slice none 0 0, .int .i64 0, .int .i64 0, .int .i64 0, .int .i64 0] 55)).alloc (.cells #[Value.int .i64 (F : Int), .int .i64 (N : Int), .int .u64 1, .slice none 0 0, .int .i64 0, .int .i64 0, .int .i64 0, .int .i64 0] 55)) = w3 at *
  rw [show w.heap.size + 1 + 1 = w.heap.size + 2 from rfl]
  have own0 : w3.ownsRow (w.heap.size + 3) 9 1 (.slice none 0 0) 0 (strsL []) := World.ownsRow_nil _ _ _ _
  go_loopw [9, 10] (fun x y wr => ∃ (i : Nat) (l : List (List UInt8)) (a : Option Addr) (c E : Nat), i ≤ N ∧ x = .slice a l.length c ∧ y = .int .i64 (i : Int) ∧ UO w [Value.slice a1 l0.length c1, .slice a2 ws0.length c2, .int .i64 left, .bool false] [Value.int .i64 (F : Int), .int .i64 (N : Int), .int .u64 (E : Int), .slice none 0 0, .int .i64 0, .int .i64 0, .int .i64 0, .int .i64 0] wr ∧ wr.ownsRow (w.heap.size + 3) 9 1 (.slice a l.length c) l.length (strsL l) ∧ l = regM D F i ∧ E = topM l + 1) (fun _ y _ => N - (intOf y).toNat)
  case atStart => exact ⟨0, [], none, 0, 1, by omega, rfl, rfl, U0, own0, rfl, rfl⟩
  case round =>
    clear U0 own0
    obtain ⟨i, l, a, c, E, hi, rfl, rfl, U, own, hl, hEt⟩ := hrel
    have HL := Go.Lib.hid hl; have HET := Go.Lib.hid hEt
    have hElt : E ≤ 4294967296 := by have := topM_lt l; omega
    have hll : l.length = i := by rw [hl]; exact reg_len D F i
    have HLL := Go.Lib.hid hll
    have hl65 : l.length ≤ 65536 := by omega
    clear hl hEt hll
    by_cases hil : i < N
    case neg =>
      have hii : ¬ (i : Int) < (N : Int) := by omega
      obtain rfl : N = i := by omega
      have x2 := U.p8.cell 2 _ rfl
      obtain ⟨al, cl, el, hrdl, hlol, _⟩ := NB.rd_of_own own
      cases el
      by_cases hw : 4294967295 < E
      · have hwi : (4294967295 : Int) < (E : Int) := by omega
        have hq := HE.out
        rw [← HL.out, if_pos (by have := HET.out; omega)] at hq
        have HQ := Go.Lib.hid hq
        clear hq
        have R9 := ((((((((U.p6.set 0 (.int .i64 0)).set 1 (.int .i64 0)).set 2 (.int .u64 0)).set 3 (.slice none 0 0)).set 4 (.int .i64 0)).set 5 (.int .i64 0)).set 6 (.int .i64 0)).set 7 (.int .i64 0))
        simp only [List.set] at R9
        have B9 : Below w.heap.size w ((((((((wr.setCell ⟨w.heap.size + 1, 0, none⟩ (.int .i64 0)).setCell ⟨w.heap.size + 1, 1, none⟩ (.int .i64 0)).setCell ⟨w.heap.size + 1, 2, none⟩ (.int .u64 0)).setCell ⟨w.heap.size + 1, 3, none⟩ (.slice none 0 0)).setCell ⟨w.heap.size + 1, 4, none⟩ (.int .i64 0)).setCell ⟨w.heap.size + 1, 5, none⟩ (.int .i64 0)).setCell ⟨w.heap.size + 1, 6, none⟩ (.int .i64 0)).setCell ⟨w.heap.size + 1, 7, none⟩ (.int .i64 0)) := ((((((((U.bel.setCell (p := ⟨w.heap.size + 1, 0, none⟩) (by simp) (.int .i64 0)).setCell (p := ⟨w.heap.size + 1, 1, none⟩) (by simp) (.int .i64 0)).setCell (p := ⟨w.heap.size + 1, 2, none⟩) (by simp) (.int .u64 0)).setCell (p := ⟨w.heap.size + 1, 3, none⟩) (by simp) (.slice none 0 0)).setCell (p := ⟨w.heap.size + 1, 4, none⟩) (by simp) (.int .i64 0)).setCell (p := ⟨w.heap.size + 1, 5, none⟩) (by simp) (.int .i64 0)).setCell (p := ⟨w.heap.size + 1, 6, none⟩) (by simp) (.int .i64 0)).setCell (p := ⟨w.heap.size + 1, 7, none⟩) (by simp) (.int .i64 0))
        have HR9 := Go.Lib.hid R9; have HB9 := Go.Lib.hid B9
        clear R9 B9
        have d0 := U.p6.cell 0 _ rfl
        have f0 := U.p6.free 0
        have d1 := U.p6.cell 1 _ rfl
        have f1 := U.p6.free 1
        have d2 := U.p6.cell 2 _ rfl
        have f2 := U.p6.free 2
        have d3 := U.p6.cell 3 _ rfl
        have f3 := U.p6.free 3
        have d4 := U.p6.cell 4 _ rfl
        have f4 := U.p6.free 4
        have d5 := U.p6.cell 5 _ rfl
        have f5 := U.p6.free 5
        have d6 := U.p6.cell 6 _ rfl
        have f6 := U.p6.free 6
        have d7 := U.p6.cell 7 _ rfl
        have f7 := U.p6.free 7
        go_wp2_with fail
        clear d0 f0 d1 f1 d2 f2 d3 f3 d4 f4 d5 f5 d6 f6 d7 f7
        generalize ((((((((wr.setCell ⟨w.heap.size + 1, 0, none⟩ (.int .i64 0)).setCell ⟨w.heap.size + 1, 1, none⟩ (.int .i64 0)).setCell ⟨w.heap.size + 1, 2, none⟩ (.int .u64 0)).setCell ⟨w.heap.size + 1, 3, none⟩ (.slice none 0 0)).setCell ⟨w.heap.size + 1, 4, none⟩ (.int .i64 0)).setCell ⟨w.heap.size + 1, 5, none⟩ (.int .i64 0)).setCell ⟨w.heap.size + 1, 6, none⟩ (.int .i64 0)).setCell ⟨w.heap.size + 1, 7, none⟩ (.int .i64 0)) = w9 at *
        have R9 := HR9.out
        have d0 := R9.cell 0 _ rfl
        have d1 := R9.cell 1 _ rfl
        have d2 := R9.cell 2 _ rfl
        have d3 := R9.cell 3 _ rfl
        have d4 := R9.cell 4 _ rfl
        have d5 := R9.cell 5 _ rfl
        have d6 := R9.cell 6 _ rfl
        have d7 := R9.cell 7 _ rfl
        have hlt9 := R9.lt
        refine bodyPost_ret (v := .tuple #[.agg #[Value.int .i64 0, .int .i64 0, .int .u64 0, .slice none 0 0, .int .i64 0, .int .i64 0, .int .i64 0, .int .i64 0], .int .i64 37]) (by simp [results, Try.results23, go_sem, d0, d1, d2, d3, d4, d5, d6, d7, hlt9]) rfl ?_
        exact open_no HQ.out (by decide) HB9.out
      have hwi : ¬ (4294967295 : Int) < (E : Int) := by omega
      have hq := HE.out
      rw [← HL.out, if_neg (by have := HET.out; omega)] at hq
      have HQ0 := Go.Lib.hid hq
      have hS := HS.out
      rw [← HL.out] at hS
      have hS2 : openS D (F : Int) (N : Int) = ⟨F, N, E, (openLoop l (N + 1) [] 0 0).1, (openLoop l (N + 1) [] 0 0).2, (openLoop l (N + 1) [] 0 0).1.length, 0, 0⟩ := by
        rw [hS]; unfold openR; rw [HLL.out, ← HET.out]
      have HS2 := Go.Lib.hid hS2
      have hl64 : ∀ b ∈ l, b.length = 64 := by rw [HL.out]; exact HR64.out
      have HL64 := Go.Lib.hid hl64
      have HLO := Go.Lib.hid hlol
      have hrdl' : Rd 1 wr a l.length c (strsL l) := hrdl
      have HLI := Go.Lib.hid HLL.out
      clear hq hS hS2 hl64 hlol hrdl own HL HET HE HS HR64 HRD HROK HRL hw
      obtain ⟨wb, rfl⟩ : ∃ wb : World, wb = wr := ⟨_, rfl⟩
      have hws : w.heap.size + 3 ≤ wb.heap.size := by have := U.p8.lt; omega
      have HWS := Go.Lib.hid hws
      clear hws
      go_wp2_with fail
      clear x2 hwi
      go_loopw [13] (fun y wi => ∃ (L : List (List UInt8)) (u ep : Nat) (aL : Option Addr) (cL : Nat), y = .int .u64 (ep : Int) ∧ UO w [Value.slice a1 l0.length c1, .slice a2 ws0.length c2, .int .i64 left, .bool false] [Value.int .i64 (F : Int), .int .i64 (N : Int), .int .u64 (E : Int), .slice aL L.length cL, .int .i64 (u : Int), .int .i64 0, .int .i64 0, .int .i64 0] wi ∧ wi.ownsRow wb.heap.size 9 1 (.slice aL L.length cL) L.length (strsL L) ∧ Rd 1 wi a l.length c (strsL l) ∧ wb.heap.size ≤ wi.heap.size ∧ u ≤ N ∧ L.length ≤ u ∧ openLoop l (N + 1 - u) L u ep = openLoop l (N + 1) [] 0 0) (fun _ wi => N + 1 - usedOf wi (w.heap.size + 2))
      case atStart => exact ⟨[], 0, 0, none, 0, rfl, U, World.ownsRow_nil _ _ _ _, hrdl', Nat.le_refl _, by omega, by simp, rfl⟩
      case round =>
        clear U hrdl'
        obtain ⟨L, u, ep, aL, cL, rfl, U, own, hrl, hsz, hu, hLu, hop⟩ := hrel
        have HOP := Go.Lib.hid hop
        clear hop
        have hus : usedOf wr (w.heap.size + 2) = u := by unfold usedOf; rw [U.p8.cell 4 _ rfl]; rfl
        have HUS := Go.Lib.hid hus
        have tk := rtake_any wr a c l hrl HL64.out (by have := HLI.out; omega) u L.length ep (by omega) (by omega)
        have HTK := Go.Lib.hid tk
        have hfuel : N + 1 - u = (N - u) + 1 := by omega
        have hstep := HOP.out
        rw [hfuel, openLoop] at hstep
        have hL65 : L.length ≤ 65536 := by omega
        clear tk hus hfuel
        have d3 := U.p8.cell 3 _ rfl
        have d4 := U.p8.cell 4 _ rfl
        cases hrec : recordM l u L.length ep with
        | none =>
          rw [hrec] at hstep
          simp only at hstep
          have htm : takeM l u L.length ep = ([], 0, 0) := by unfold takeM; rw [hrec]; rfl
          rw [htm] at HTK
          have hq : openS D (F : Int) (N : Int) = ⟨F, N, E, L, u, L.length, 0, 0⟩ := by rw [HS2.out, ← hstep]
          have HQS := Go.Lib.hid hq
          clear htm hq hstep hrec
          go_wp2_with fail
          refine HTK.out.mono ?_
          rintro e w7 ⟨rfl, hb7⟩
          have U7 := U.below hb7
          obtain ⟨aL', cL', eL, hrL, hloL, _⟩ := NB.rd_of_own own
          cases eL
          have hrL7 := Rd.below hrL hb7
          have UF := U7.set 5 (.int .i64 (L.length : Int))
          simp only [List.set] at UF
          have K7 : NB.Kp (fun k => k = w.heap.size + 2) w7 (w7.setCell ⟨w.heap.size + 2, 5, none⟩ (.int .i64 (L.length : Int))) := (NB.Kp.refl (fun k => k = w.heap.size + 2) w7).setCell (x := ⟨w.heap.size + 2, 5, none⟩) (.inl rfl) _
          have hlo9 : ∀ k o, aL = some ⟨k, o, none⟩ → w.heap.size + 3 ≤ k := fun k o e => by
            have h1 := (hloL k o e).1
            exact Nat.le_trans HWS.out h1
          have HLO9 := Go.Lib.hid hlo9
          have RDL := K7.rd hrL7 (fun k o e _ hk => by have := HLO9.out k o e; omega)
          have HRDL := Go.Lib.hid RDL
          have e3 := U7.p8.cell 3 _ rfl
          have e5 := U7.p8.cell 5 _ rfl
          have k5 := U7.p8.free 5
          have HUF := Go.Lib.hid UF
          clear U hb7 hrL hloL hrL7 K7 RDL U7 own hrl d3 d4 HTK UF hlo9
          have UF := HUF.out
          have g3 := UF.p3.cell 0 _ rfl
          have r0 := UF.p8.cell 0 _ rfl
          have s0 := UF.p8.free 0
          have r1 := UF.p8.cell 1 _ rfl
          have s1 := UF.p8.free 1
          have r2 := UF.p8.cell 2 _ rfl
          have s2 := UF.p8.free 2
          have r3 := UF.p8.cell 3 _ rfl
          have s3 := UF.p8.free 3
          have r4 := UF.p8.cell 4 _ rfl
          have s4 := UF.p8.free 4
          have r5 := UF.p8.cell 5 _ rfl
          have s5 := UF.p8.free 5
          have r6 := UF.p8.cell 6 _ rfl
          have s6 := UF.p8.free 6
          have r7 := UF.p8.cell 7 _ rfl
          have s7 := UF.p8.free 7
          have R9 := ((((((((UF.p6.set 0 (.int .i64 (F : Int))).set 1 (.int .i64 (N : Int))).set 2 (.int .u64 (E : Int))).set 3 (.slice aL L.length cL)).set 4 (.int .i64 (u : Int))).set 5 (.int .i64 (L.length : Int))).set 6 (.int .i64 0)).set 7 (.int .i64 0))
          simp only [List.set] at R9
          have B9 : Below w.heap.size w (((((((((w7.setCell ⟨w.heap.size + 2, 5, none⟩ (.int .i64 (L.length : Int))).setCell ⟨w.heap.size + 1, 0, none⟩ (.int .i64 (F : Int))).setCell ⟨w.heap.size + 1, 1, none⟩ (.int .i64 (N : Int))).setCell ⟨w.heap.size + 1, 2, none⟩ (.int .u64 (E : Int))).setCell ⟨w.heap.size + 1, 3, none⟩ (.slice aL L.length cL)).setCell ⟨w.heap.size + 1, 4, none⟩ (.int .i64 (u : Int))).setCell ⟨w.heap.size + 1, 5, none⟩ (.int .i64 (L.length : Int))).setCell ⟨w.heap.size + 1, 6, none⟩ (.int .i64 0)).setCell ⟨w.heap.size + 1, 7, none⟩ (.int .i64 0)) := ((((((((UF.bel.setCell (p := ⟨w.heap.size + 1, 0, none⟩) (by simp) (.int .i64 (F : Int))).setCell (p := ⟨w.heap.size + 1, 1, none⟩) (by simp) (.int .i64 (N : Int))).setCell (p := ⟨w.heap.size + 1, 2, none⟩) (by simp) (.int .u64 (E : Int))).setCell (p := ⟨w.heap.size + 1, 3, none⟩) (by simp) (.slice aL L.length cL)).setCell (p := ⟨w.heap.size + 1, 4, none⟩) (by simp) (.int .i64 (u : Int))).setCell (p := ⟨w.heap.size + 1, 5, none⟩) (by simp) (.int .i64 (L.length : Int))).setCell (p := ⟨w.heap.size + 1, 6, none⟩) (by simp) (.int .i64 0)).setCell (p := ⟨w.heap.size + 1, 7, none⟩) (by simp) (.int .i64 0))
          have K9 : NB.Kp (fun k => k = w.heap.size + 1) (w7.setCell ⟨w.heap.size + 2, 5, none⟩ (.int .i64 (L.length : Int))) (((((((((w7.setCell ⟨w.heap.size + 2, 5, none⟩ (.int .i64 (L.length : Int))).setCell ⟨w.heap.size + 1, 0, none⟩ (.int .i64 (F : Int))).setCell ⟨w.heap.size + 1, 1, none⟩ (.int .i64 (N : Int))).setCell ⟨w.heap.size + 1, 2, none⟩ (.int .u64 (E : Int))).setCell ⟨w.heap.size + 1, 3, none⟩ (.slice aL L.length cL)).setCell ⟨w.heap.size + 1, 4, none⟩ (.int .i64 (u : Int))).setCell ⟨w.heap.size + 1, 5, none⟩ (.int .i64 (L.length : Int))).setCell ⟨w.heap.size + 1, 6, none⟩ (.int .i64 0)).setCell ⟨w.heap.size + 1, 7, none⟩ (.int .i64 0)) := (((((((((NB.Kp.refl (fun k => k = w.heap.size + 1) (w7.setCell ⟨w.heap.size + 2, 5, none⟩ (.int .i64 (L.length : Int)))).setCell (x := ⟨w.heap.size + 1, 0, none⟩) (.inl rfl) (.int .i64 (F : Int))).setCell (x := ⟨w.heap.size + 1, 1, none⟩) (.inl rfl) (.int .i64 (N : Int))).setCell (x := ⟨w.heap.size + 1, 2, none⟩) (.inl rfl) (.int .u64 (E : Int))).setCell (x := ⟨w.heap.size + 1, 3, none⟩) (.inl rfl) (.slice aL L.length cL)).setCell (x := ⟨w.heap.size + 1, 4, none⟩) (.inl rfl) (.int .i64 (u : Int))).setCell (x := ⟨w.heap.size + 1, 5, none⟩) (.inl rfl) (.int .i64 (L.length : Int))).setCell (x := ⟨w.heap.size + 1, 6, none⟩) (.inl rfl) (.int .i64 0)).setCell (x := ⟨w.heap.size + 1, 7, none⟩) (.inl rfl) (.int .i64 0))
          have RL9 := K9.rd HRDL.out (fun k o e _ hk => by have := HLO9.out k o e; omega)
          have HRL9 := Go.Lib.hid RL9
          clear K9 RL9
          have HR9 := Go.Lib.hid R9; have HB9 := Go.Lib.hid B9
          clear R9 B9
          have d0 := UF.p6.cell 0 _ rfl
          have f0 := UF.p6.free 0
          have d1 := UF.p6.cell 1 _ rfl
          have f1 := UF.p6.free 1
          have d2 := UF.p6.cell 2 _ rfl
          have f2 := UF.p6.free 2
          have d3 := UF.p6.cell 3 _ rfl
          have f3 := UF.p6.free 3
          have d4 := UF.p6.cell 4 _ rfl
          have f4 := UF.p6.free 4
          have d5 := UF.p6.cell 5 _ rfl
          have f5 := UF.p6.free 5
          have d6 := UF.p6.cell 6 _ rfl
          have f6 := UF.p6.free 6
          have d7 := UF.p6.cell 7 _ rfl
          have f7 := UF.p6.free 7
          go_wp2_with fail
          clear d0 f0 d1 f1 d2 f2 d3 f3 d4 f4 d5 f5 d6 f6 d7 f7
          generalize (((((((((w7.setCell ⟨w.heap.size + 2, 5, none⟩ (.int .i64 (L.length : Int))).setCell ⟨w.heap.size + 1, 0, none⟩ (.int .i64 (F : Int))).setCell ⟨w.heap.size + 1, 1, none⟩ (.int .i64 (N : Int))).setCell ⟨w.heap.size + 1, 2, none⟩ (.int .u64 (E : Int))).setCell ⟨w.heap.size + 1, 3, none⟩ (.slice aL L.length cL)).setCell ⟨w.heap.size + 1, 4, none⟩ (.int .i64 (u : Int))).setCell ⟨w.heap.size + 1, 5, none⟩ (.int .i64 (L.length : Int))).setCell ⟨w.heap.size + 1, 6, none⟩ (.int .i64 0)).setCell ⟨w.heap.size + 1, 7, none⟩ (.int .i64 0)) = w9 at *
          have R9 := HR9.out
          have d0 := R9.cell 0 _ rfl
          have d1 := R9.cell 1 _ rfl
          have d2 := R9.cell 2 _ rfl
          have d3 := R9.cell 3 _ rfl
          have d4 := R9.cell 4 _ rfl
          have d5 := R9.cell 5 _ rfl
          have d6 := R9.cell 6 _ rfl
          have d7 := R9.cell 7 _ rfl
          have hlt9 := R9.lt
          refine bodyPost_ret (v := .tuple #[.agg #[Value.int .i64 (F : Int), .int .i64 (N : Int), .int .u64 (E : Int), .slice aL L.length cL, .int .i64 (u : Int), .int .i64 (L.length : Int), .int .i64 0, .int .i64 0], .int .i64 0]) (by simp [results, Try.results23, go_sem, d0, d1, d2, d3, d4, d5, d6, d7, hlt9]) rfl ?_
          rw [show (Value.agg #[Value.int .i64 (F : Int), .int .i64 (N : Int), .int .u64 (E : Int), .slice aL L.length cL, .int .i64 (u : Int), .int .i64 (L.length : Int), .int .i64 0, .int .i64 0]) = Value.agg (sgL ⟨F, N, E, L, u, L.length, 0, 0⟩ aL cL).toArray from rfl]
          exact open_yes HQ0.out HQS.out HB9.out HRL9.out (fun k o e => by have := HLO9.out k o e; omega)
        | some q =>
          obtain ⟨b, pn, x⟩ := q
          rw [hrec] at hstep
          simp only at hstep
          have htm : takeM l u L.length ep = (b, pn, x) := by unfold takeM; rw [hrec]; rfl
          rw [htm] at HTK
          obtain ⟨p1, p2, p3, -⟩ := record_in hrec
          rw [HLI.out] at p3
          have hpnz : ((pn : Int) == 0) = false := by simp; omega
          have hpny : (pn == 0) = false := by simp; omega
          have hpnx : ¬ pn = 0 := by omega
          have hof : openLoop l (N + 1 - (u + pn)) (L ++ [b]) (u + pn) x = openLoop l (N + 1) [] 0 0 := by
            rw [← hstep]
            exact open_fuel _ _ _ _ _ (by have := HLI.out; omega) (by have := HLI.out; omega)
          have HOF := Go.Lib.hid hof
          have wup : IntKind.i64.wrap ((u : Int) + (pn : Int)) = (u : Int) + (pn : Int) := IntWalk.i64_in _ (by omega)
          clear htm hstep hrec hof
          go_wp2_with fail
          refine HTK.out.mono ?_
          rintro e w7 ⟨rfl, hb7⟩
          have U7 := U.below hb7
          have own7 := NB.own_keep own hb7
          have hrl7 := Rd.below hrl hb7
          have hsz7 : wb.heap.size ≤ w7.heap.size := Nat.le_trans hsz hb7.size
          have e3 := U7.p8.cell 3 _ rfl
          have U8 := U7.below (oneB' w7 (.cells #[.string ⟨b.toArray⟩] 9))
          have own8 := NB.own_keep own7 (oneB' w7 (.cells #[.string ⟨b.toArray⟩] 9))
          have hrl8 := Rd.below hrl7 (oneB' w7 (.cells #[.string ⟨b.toArray⟩] 9))
          have hsz8 := Nat.le_trans hsz7 (oneB' w7 (.cells #[.string ⟨b.toArray⟩] 9)).size
          have HU8 := Go.Lib.hid U8
          have HR8 := Go.Lib.hid hrl8
          clear U own hrl hb7 U7 own7 hrl7 d3 d4 hsz hsz7 U8 hrl8 HTK
          go_wp2_with (at_builtin; refine NB.wpList_append_at rfl (.tmp 107) (.tmp 109) 32 rfl wb.heap.size slTS _ L.length (strsL L) rfl own8 _ 1 1 [strL b] rfl (str_rd w7 b rfl) (str_one _) (by omega) (by unfold maxLen; omega) hsz8 ?_; intro v6 w9 ho9 hg9 hv9; obtain ⟨a9, c9, rfl, _⟩ := NB.rd_of_own ho9; have K9 := (NB.Kp.refl (fun k => (Value.slice aL L.length cL).ownBlock = some k) _).grown hg9 (fun k e => .inl e); have U9 := HU8.out.kp K9 (fun k e => by have h1 := (own8.lt k e).1; exact Nat.le_trans HWS.out h1); have R9 := K9.rd HR8.out (fun b' o e _ hk => by have h1 := (own8.lt b' hk).1; have h2 := (HLO.out b' o e).2; omega); have hsz9 := Nat.le_trans hsz8 K9.size; have hl9 : L.length + 1 = (L ++ [b]).length := (by simp); rw [strs_snoc'] at ho9; have z3 := U9.p8.cell 3 _ rfl; have y3 := U9.p8.free 3; have z4 := U9.p8.cell 4 _ rfl; have y4 := U9.p8.free 4; have U10 := U9.set 3 (.slice a9 (L.length + 1) c9); have U11 := U10.set 4 (.int .i64 ((u : Int) + (pn : Int))); simp only [List.set] at U11; have K11 := ((NB.Kp.refl (fun k => k = w.heap.size + 2) w9).setCell (x := ⟨w.heap.size + 2, 3, none⟩) (.inl rfl) (.slice a9 (L.length + 1) c9)).setCell (x := ⟨w.heap.size + 2, 4, none⟩) (.inl rfl) (.int .i64 ((u : Int) + (pn : Int))); have O11 := K11.own ho9 (fun k e hk => by have h1 := (ho9.lt k e).1; have h2 := HWS.out; omega); have R11 := K11.rd R9 (fun b' o e _ hk => by have h2 := (HLO.out b' o e).1; omega); have hsz11 := Nat.le_trans hsz9 K11.size; have HU11 := Go.Lib.hid U11; have HO11 := Go.Lib.hid O11; have HR11 := Go.Lib.hid R11; have HSZ11 := Go.Lib.hid hsz11; clear HU8 HR8 ho9 hg9 hv9 K9 U9 R9 hsz9 U10 U11 K11 O11 R11 hsz11 own8 hsz8 e3 hl9)
          have hus2 := HU11.out.p8.cell 4 _ rfl
          have h1 : usedOf ((w9.setCell ⟨w.heap.size + 2, 3, none⟩ (.slice a9 (L.length + 1) c9)).setCell ⟨w.heap.size + 2, 4, none⟩ (.int .i64 ((u : Int) + (pn : Int)))) (w.heap.size + 2) = u + pn := by
            unfold usedOf; rw [hus2]; simp [intOf]; omega
          have HUS2 := Go.Lib.hid h1
          clear hus2 h1
          go_roundw
          case rel => exact ⟨L ++ [b], u + pn, x, a9, c9, rfl, by rw [List.length_append]; exact HU11.out, by rw [List.length_append]; exact HO11.out, HR11.out, HSZ11.out, by omega, by rw [List.length_append, List.length_singleton]; omega, HOF.out⟩
          case measure => rw [HUS2.out, HUS.out]; omega
    have hii : (i : Int) < (N : Int) := by omega
    obtain ⟨hx0, hx64⟩ := HROK.out i hil
    have hcast : ((F + i : Nat) : Int) = (F : Int) + (i : Int) := by omega
    have hsn := reg_snoc D F i
    rw [hcast] at hx0 hx64 hsn
    have rr := fun w' hb => HRD.out w' hb ((F : Int) + (i : Int))
    obtain ⟨b, hb⟩ : ∃ b, (D.read ((F : Int) + (i : Int))).1 = b := ⟨_, rfl⟩
    rw [hx0, hb] at rr
    rw [hb] at hx64 hsn
    have HRR := Go.Lib.hid rr; have HSN := Go.Lib.hid hsn
    have hn1 := fun w => rnum4_any w b (by omega)
    have hn2 := fun w => rnum4_any w (b.drop 60) (by rw [List.length_drop]; omega)
    obtain ⟨X, hX⟩ : ∃ X, num4 b = X := ⟨_, rfl⟩
    obtain ⟨Y, hY⟩ : ∃ Y, num4 (b.drop 60) = Y := ⟨_, rfl⟩
    have hXl : X < 4294967296 := by rw [← hX]; exact num4_lt b
    have hYl : Y < 4294967296 := by rw [← hY]; exact num4_lt _
    have htop := top_step l b
    rw [hX] at hn1 htop
    rw [hY] at hn2 htop
    have HN1 := Go.Lib.hid hn1; have HN2 := Go.Lib.hid hn2; have HTOP := Go.Lib.hid htop
    have hb64 : b.take 64 = b := List.take_of_length_le (by omega)
    have hb64' : b.take b.length = b := List.take_length
    have hxw : IntKind.i64.wrap ((F : Int) + (i : Int)) = (F : Int) + (i : Int) := IntWalk.i64_in _ (by omega)
    clear rr hsn hn1 hn2 hX hY htop hcast hx0 hb
    have d3 := U.p3
    have b0 := d3.cell 0 _ rfl
    have hz0 := d3.free 0
    have b1 := d3.cell 1 _ rfl
    have hz1 := d3.free 1
    have b2 := d3.cell 2 _ rfl
    have hz2 := d3.free 2
    have b3 := d3.cell 3 _ rfl
    have hz3 := d3.free 3
    go_wp2_with fail
    clear b0 hz0 b1 hz1 b2 hz2 b3 hz3
    refine (HRR.out wr U.bel).mono ?_
    unfold strL
    rintro e w4 ⟨rfl, hb4⟩
    have U4 := U.below hb4
    have own4 := NB.own_keep own hb4
    have U5 := U4.below (oneB' w4 (.cells #[.string ⟨b.toArray⟩] 9))
    have own5 := NB.own_keep own4 (oneB' w4 (.cells #[.string ⟨b.toArray⟩] 9))
    have hsz5 : w.heap.size + 3 ≤ (w4.alloc (.cells #[.string ⟨b.toArray⟩] 9)).heap.size := by have := U5.p8.lt; omega
    have HU5 := Go.Lib.hid U5
    clear U own hb4 U4 own4 U5 d3
    go_wp2_with (at_builtin; refine NB.wpList_append_at rfl (.tmp 59) (.tmp 61) 32 rfl (w.heap.size + 3) slTS _ l.length (strsL l) rfl own5 _ 1 1 [strL b] rfl (str_rd w4 b rfl) (str_one _) (by omega) (by unfold maxLen; omega) hsz5 ?_; intro v6 w6 ho6 hg6 hv6; obtain ⟨a6, c6, rfl, _⟩ := NB.rd_of_own ho6; have U6 := HU5.out.kp ((NB.Kp.refl (fun k => (Value.slice a l.length c).ownBlock = some k) _).grown hg6 (fun k e => .inl e)) (fun k e => (own5.lt k e).1); have hl6 : l.length + 1 = (l ++ [b]).length := (by simp); rw [strs_snoc'] at ho6; have HO6 := Go.Lib.hid ho6; have HU6 := Go.Lib.hid U6; clear HU5 ho6 hg6 hv6 U6 own5 hsz5 hl6)
    refine NB.wp_region_t [] (by kernel_rfl) ?_
    have U7 := HU6.out.below (dB' w6)
    have O7 := NB.own_keep HO6.out (dB' w6)
    have HO7 := Go.Lib.hid O7
    clear HU6 HO6 O7
    generalize w6.drew = w7 at *
    have q2 := U7.p8.cell 2 _ rfl
    refine NB.t_p 0 rfl (by kernel_rfl) (fun K hK => ?_); go_simp; refine hK _ ?_; clear hK K
    refine NB.t_p 2 rfl (by kernel_rfl) (fun K hK => ?_); go_simp; refine hK _ ?_; clear hK K
    refine NB.t_r 3 [] rfl (by kernel_rfl) (by kernel_rfl) (by go_simp) _ (fun w' hw' => NB.run_op_load rfl rfl Try.underlying53 rfl q2 hw') (fun K hK => ?_); go_simp; refine hK _ ?_; clear hK K
    refine NB.t_e 1 rfl (by kernel_rfl) (by kernel_rfl) (fun K hK => ?_); unfold NB.tmoves; go_simp; refine (HN1.out _).mono ?_; rintro e w8 ⟨rfl, hb8⟩; refine ⟨_, rfl, hb8, hK _ _ ?_⟩; clear hK K
    have U8 := U7.below hb8
    have O8 := NB.own_keep HO7.out hb8
    have HO8 := Go.Lib.hid O8
    clear U7 HO7 O8 hb8 q2
    refine NB.t_p 4 rfl (by kernel_rfl) (fun K hK => ?_); go_simp; refine hK _ ?_; clear hK K
    refine NB.t_end (by kernel_rfl) ?_
    by_cases cX : E ≤ X
    · have cXi : (E : Int) ≤ (X : Int) := by omega
      have cXd : decide (E ≤ X) = true := decide_eq_true cX
      have wX : IntKind.u64.wrap ((X : Int) + 1) = (X : Int) + 1 := IntWalk.u64_in _ ⟨by omega, by omega⟩
      go_wp2_with fail
      refine (HN1.out _).mono ?_
      rintro e w9 ⟨rfl, hb9⟩
      have U9 := U8.below hb9
      have O9 := NB.own_keep HO8.out hb9
      have d2 := U9.p8.cell 2 _ rfl
      have f2 := U9.p8.free 2
      have U10 := U9.set 2 (.int .u64 ((X : Int) + 1))
      simp only [List.set] at U10
      have O10 := ((NB.Kp.refl (fun k => k = w.heap.size + 2) w9).setCell (x := ⟨w.heap.size + 2, 2, none⟩) (.inl rfl) (.int .u64 ((X : Int) + 1))).own O9 (fun k e hk => by have := (O9.lt k e).1; omega)
      have HU10 := Go.Lib.hid U10; have HO10 := Go.Lib.hid O10
      clear U8 HO8 U9 O9 U10 O10 hb9
      go_wp2_with fail
      clear d2 f2
      generalize w9.setCell ⟨w.heap.size + 2, 2, none⟩ (.int .u64 ((X : Int) + 1)) = w10 at *
      have hE' : max E (X + 1) = X + 1 := by omega
      refine NB.wp_region_t [] (by kernel_rfl) ?_
      have U11 := HU10.out.below (dB' _)
      have O11 := NB.own_keep HO10.out (dB' _)
      have HO11 := Go.Lib.hid O11
      clear HU10 HO10 O11
      generalize w10.drew = w11 at *
      have q2 := U11.p8.cell 2 _ rfl
      refine NB.t_p 0 rfl (by kernel_rfl) (fun K hK => ?_); go_simp; refine hK _ ?_; clear hK K
      refine NB.t_p 1 rfl (by kernel_rfl) (fun K hK => ?_); go_simp; refine hK _ ?_; clear hK K
      refine NB.t_p 3 rfl (by kernel_rfl) (fun K hK => ?_); go_simp; refine hK _ ?_; clear hK K
      refine NB.t_r 4 [] rfl (by kernel_rfl) (by kernel_rfl) (by go_simp) _ (fun w' hw' => NB.run_op_load rfl rfl Try.underlying53 rfl q2 hw') (fun K hK => ?_); go_simp; refine hK _ ?_; clear hK K
      refine NB.t_e 2 rfl (by kernel_rfl) (by kernel_rfl) (fun K hK => ?_); unfold NB.tmoves; go_simp; refine (HN2.out _).mono ?_; rintro e w12 ⟨rfl, hb12⟩; refine ⟨_, rfl, hb12, hK _ _ ?_⟩; clear hK K
      have U12 := U11.below hb12
      have O12 := NB.own_keep HO11.out hb12
      have HO12 := Go.Lib.hid O12
      clear U11 HO11 O12 hb12 q2
      refine NB.t_p 5 rfl (by kernel_rfl) (fun K hK => ?_); go_simp; refine hK _ ?_; clear hK K
      refine NB.t_end (by kernel_rfl) ?_
      by_cases cY : (X + 1) ≤ Y
      · have cYi : ((X : Int) + 1) ≤ (Y : Int) := by omega
        have cYd : decide ((X + 1) ≤ Y) = true := decide_eq_true cY
        have cYe : decide ((X : Int) + 1 ≤ (Y : Int)) = true := decide_eq_true cYi
        have wY : IntKind.u64.wrap ((Y : Int) + 1) = (Y : Int) + 1 := IntWalk.u64_in _ ⟨by omega, by omega⟩
        go_wp2_with fail
        refine (HN2.out _).mono ?_
        rintro e w13 ⟨rfl, hb13⟩
        have U13 := U12.below hb13
        have O13 := NB.own_keep HO12.out hb13
        have d2 := U13.p8.cell 2 _ rfl
        have f2 := U13.p8.free 2
        have U14 := U13.set 2 (.int .u64 ((Y : Int) + 1))
        simp only [List.set] at U14
        have O14 := ((NB.Kp.refl (fun k => k = w.heap.size + 2) w13).setCell (x := ⟨w.heap.size + 2, 2, none⟩) (.inl rfl) (.int .u64 ((Y : Int) + 1))).own O13 (fun k e hk => by have := (O13.lt k e).1; omega)
        have HU14 := Go.Lib.hid U14; have HO14 := Go.Lib.hid O14
        clear U12 HO12 U13 O13 U14 O14 hb13
        go_wp2_with fail
        clear d2 f2
        refine ⟨⟨i + 1, l ++ [b], a6, c6, Y + 1, by omega, by rw [List.length_append]; rfl, by simp, HU14.out, by rw [List.length_append]; exact HO14.out, by rw [HSN.out, ← HL.out], by rw [HTOP.out]; have := HET.out; omega⟩, by simp [intOf]; omega⟩
      · have cYi : ¬ ((X : Int) + 1) ≤ (Y : Int) := by omega
        have cYd : decide ((X + 1) ≤ Y) = false := decide_eq_false cY
        have cYe : decide ((X : Int) + 1 ≤ (Y : Int)) = false := decide_eq_false cYi
        go_wp2_with fail
        refine ⟨⟨i + 1, l ++ [b], a6, c6, (X + 1), by omega, by rw [List.length_append]; rfl, by simp, U12, by rw [List.length_append]; exact HO12.out, by rw [HSN.out, ← HL.out], by rw [HTOP.out]; have := HET.out; omega⟩, by simp [intOf]; omega⟩
    · have cXi : ¬ (E : Int) ≤ (X : Int) := by omega
      have cXd : decide (E ≤ X) = false := decide_eq_false cX
      go_wp2_with fail
      have HU10 := Go.Lib.hid U8
      have HO10 := HO8
      clear U8 HO8
      have hE' : max E (X + 1) = E := by omega
      refine NB.wp_region_t [] (by kernel_rfl) ?_
      have U11 := HU10.out.below (dB' _)
      have O11 := NB.own_keep HO10.out (dB' _)
      have HO11 := Go.Lib.hid O11
      clear HU10 HO10 O11
      generalize w8.drew = w11 at *
      have q2 := U11.p8.cell 2 _ rfl
      refine NB.t_p 0 rfl (by kernel_rfl) (fun K hK => ?_); go_simp; refine hK _ ?_; clear hK K
      refine NB.t_p 1 rfl (by kernel_rfl) (fun K hK => ?_); go_simp; refine hK _ ?_; clear hK K
      refine NB.t_p 3 rfl (by kernel_rfl) (fun K hK => ?_); go_simp; refine hK _ ?_; clear hK K
      refine NB.t_r 4 [] rfl (by kernel_rfl) (by kernel_rfl) (by go_simp) _ (fun w' hw' => NB.run_op_load rfl rfl Try.underlying53 rfl q2 hw') (fun K hK => ?_); go_simp; refine hK _ ?_; clear hK K
      refine NB.t_e 2 rfl (by kernel_rfl) (by kernel_rfl) (fun K hK => ?_); unfold NB.tmoves; go_simp; refine (HN2.out _).mono ?_; rintro e w12 ⟨rfl, hb12⟩; refine ⟨_, rfl, hb12, hK _ _ ?_⟩; clear hK K
      have U12 := U11.below hb12
      have O12 := NB.own_keep HO11.out hb12
      have HO12 := Go.Lib.hid O12
      clear U11 HO11 O12 hb12 q2
      refine NB.t_p 5 rfl (by kernel_rfl) (fun K hK => ?_); go_simp; refine hK _ ?_; clear hK K
      refine NB.t_end (by kernel_rfl) ?_
      by_cases cY : E ≤ Y
      · have cYi : ((E : Int)) ≤ (Y : Int) := by omega
        have cYd : decide (E ≤ Y) = true := decide_eq_true cY
        have cYe : decide ((E : Int) ≤ (Y : Int)) = true := decide_eq_true cYi
        have wY : IntKind.u64.wrap ((Y : Int) + 1) = (Y : Int) + 1 := IntWalk.u64_in _ ⟨by omega, by omega⟩
        go_wp2_with fail
        refine (HN2.out _).mono ?_
        rintro e w13 ⟨rfl, hb13⟩
        have U13 := U12.below hb13
        have O13 := NB.own_keep HO12.out hb13
        have d2 := U13.p8.cell 2 _ rfl
        have f2 := U13.p8.free 2
        have U14 := U13.set 2 (.int .u64 ((Y : Int) + 1))
        simp only [List.set] at U14
        have O14 := ((NB.Kp.refl (fun k => k = w.heap.size + 2) w13).setCell (x := ⟨w.heap.size + 2, 2, none⟩) (.inl rfl) (.int .u64 ((Y : Int) + 1))).own O13 (fun k e hk => by have := (O13.lt k e).1; omega)
        have HU14 := Go.Lib.hid U14; have HO14 := Go.Lib.hid O14
        clear U12 HO12 U13 O13 U14 O14 hb13
        go_wp2_with fail
        clear d2 f2
        refine ⟨⟨i + 1, l ++ [b], a6, c6, Y + 1, by omega, by rw [List.length_append]; rfl, by simp, HU14.out, by rw [List.length_append]; exact HO14.out, by rw [HSN.out, ← HL.out], by rw [HTOP.out]; have := HET.out; omega⟩, by simp [intOf]; omega⟩
      · have cYi : ¬ ((E : Int)) ≤ (Y : Int) := by omega
        have cYd : decide (E ≤ Y) = false := decide_eq_false cY
        have cYe : decide ((E : Int) ≤ (Y : Int)) = false := decide_eq_false cYi
        go_wp2_with fail
        refine ⟨⟨i + 1, l ++ [b], a6, c6, E, by omega, by rw [List.length_append]; rfl, by simp, U12, by rw [List.length_append]; exact HO12.out, by rw [HSN.out, ← HL.out], by rw [HTOP.out]; have := HET.out; omega⟩, by simp [intOf]; omega⟩
end Go.Proofs.Ytmgkaoenjnnlmaa
namespace Go.Proofs.Ytmgkaoenjnnlmaa
open Go.RowKit
open Go.NB.Crc
open Go.NB (Rd Dk Kp val)

theorem ropen_any (w : World) (v : Value) (D : Dk) (frm n : Int) (h : RefD w v D) (hln : D.l.length ≤ 65536) (hw : D.waits.length ≤ 100000) (h64 : ∀ b ∈ D.l, b.length = 64) (hwi : ∀ x ∈ D.waits, x.2.length = 64 ∧ x.1 < D.l.length) (hf : frm ≤ 9223372036854775807) :
    Calls Try.prog 23 #[v, .int .i64 frm, .int .i64 n] w (OpenR w D frm n) := by
  obtain ⟨a1, c1, a2, c2, rfl, h1, h2⟩ := h
  unfold rdV
  by_cases g1 : frm < 0
  · exact ropen_a1 w D.l D.waits D.left D.down a1 a2 c1 c2 h1 h2 hln hw frm n g1
  by_cases g2 : n < 1
  · exact ropen_a2 w D.l D.waits D.left D.down a1 a2 c1 c2 h1 h2 hln hw frm n g1 g2
  by_cases g3 : (D.l.length : Int) < frm
  · exact ropen_a3 w D.l D.waits D.left D.down a1 a2 c1 c2 h1 h2 hln hw frm n g1 g2 g3
  by_cases g4 : (D.l.length : Int) - frm < n
  · exact ropen_a4 w D.l D.waits D.left D.down a1 a2 c1 c2 h1 h2 hln hw frm n g1 g2 g3 hf g4
  obtain ⟨F, rfl⟩ := Int.eq_ofNat_of_zero_le (show 0 ≤ frm by omega)
  obtain ⟨N, rfl⟩ := Int.eq_ofNat_of_zero_le (show 0 ≤ n by omega)
  by_cases hd : D.down = true
  · exact ropen_down w D.l D.waits D.left D.down a1 a2 c1 c2 h1 h2 hln hw F N (by omega) (by omega) hd
  · exact ropen_good w D.l D.waits D.left D.down a1 a2 c1 c2 h1 h2 hln hw F N (by omega) (by omega) (by simpa using hd) h64 hwi

/-- What stands while a segment of the reference is worked on. -/
structure UA (w : World) (dv sv zd zs : List Value) (W : World) : Prop where
  p3 : Rw W w.heap.size dv 50
  p4 : Rw W (w.heap.size + 1) sv 55
  p6 : Rw W (w.heap.size + 2) zd 50
  p7 : Rw W (w.heap.size + 3) zs 55
  bel : Below w.heap.size w W
section
variable {w W W' : World} {dv sv zd zs : List Value}
theorem UA.below (h : UA w dv sv zd zs W) (hb : Below W.heap.size W W') : UA w dv sv zd zs W' := ⟨h.p3.below hb, h.p4.below hb, h.p6.below hb, h.p7.below hb, bel' h.bel hb h.bel.size⟩
theorem UA.kp {F : Nat → Prop} (h : UA w dv sv zd zs W) (hk : Kp F W W') (hF : ∀ k, F k → w.heap.size + 4 ≤ k) : UA w dv sv zd zs W' :=
  ⟨h.p3.keep hk (fun f => by have := hF _ f; omega), h.p4.keep hk (fun f => by have := hF _ f; omega), h.p6.keep hk (fun f => by have := hF _ f; omega), h.p7.keep hk (fun f => by have := hF _ f; omega), h.bel.trans (hk.belowB h.bel.size (fun k hf => by have := hF k hf; omega))⟩
theorem UA.setS (h : UA w dv sv zd zs W) (k : Nat) (v : Value) : UA w dv (sv.set k v) zd zs (W.setCell ⟨w.heap.size + 1, k, none⟩ v) :=
  ⟨h.p3.other (by omega) k v, h.p4.set k v, h.p6.other (by omega) k v, h.p7.other (by omega) k v, h.bel.setCell (p := ⟨w.heap.size + 1, k, none⟩) (by simp) v⟩
theorem UA.inD {dv' : List Value} (h : UA w dv sv zd zs W) (hk : Kp (fun k => k = w.heap.size) W W') (h3 : Rw W' w.heap.size dv' 50) : UA w dv' sv zd zs W' :=
  ⟨h3, h.p4.keep hk (by omega), h.p6.keep hk (by omega), h.p7.keep hk (by omega), h.bel.trans (hk.belowB h.bel.size (fun k hf => by omega))⟩
theorem UA.outD {zd' : List Value} (h : UA w dv sv zd zs W) (hk : Kp (fun k => k = w.heap.size + 2) W W') (h6 : Rw W' (w.heap.size + 2) zd' 50) : UA w dv sv zd' zs W' :=
  ⟨h.p3.keep hk (by omega), h.p4.keep hk (by omega), h6, h.p7.keep hk (by omega), h.bel.trans (hk.belowB h.bel.size (fun k hf => by omega))⟩
theorem UA.outS {zs' : List Value} (h : UA w dv sv zd zs W) (hk : Kp (fun k => k = w.heap.size + 3) W W') (h7 : Rw W' (w.heap.size + 3) zs' 55) : UA w dv sv zd zs' W' :=
  ⟨h.p3.keep hk (by omega), h.p4.keep hk (by omega), h.p6.keep hk (by omega), h7, h.bel.trans (hk.belowB h.bel.size (fun k hf => by omega))⟩
theorem UA.start (w : World) (v0 v1 v2 v3 s0 s1 s2 s3 s4 s5 s6 s7 : Value) : UA w [v0, v1, v2, v3] [s0, s1, s2, s3, s4, s5, s6, s7] [Value.slice none 0 0, .slice none 0 0, .int .i64 0, .bool false] [Value.int .i64 0, .int .i64 0, .int .u64 0, .slice none 0 0, .int .i64 0, .int .i64 0, .int .i64 0, .int .i64 0] ((((w.alloc (.cells #[v0, v1, v2, v3] 50)).alloc (.cells #[s0, s1, s2, s3, s4, s5, s6, s7] 55)).alloc (.cells #[Value.slice none 0 0, .slice none 0 0, .int .i64 0, .bool false] 50)).alloc (.cells #[Value.int .i64 0, .int .i64 0, .int .u64 0, .slice none 0 0, .int .i64 0, .int .i64 0, .int .i64 0, .int .i64 0] 55)) := by
  have a1 := rw_new w [v0, v1, v2, v3] 50 rfl
  have o1 := oneB' w (.cells #[v0, v1, v2, v3] 50)
  simp only [List.toArray] at a1
  generalize h1 : w.alloc (.cells #[v0, v1, v2, v3] 50) = w1 at *
  have z1 : w1.heap.size = w.heap.size + 1 := by rw [← h1]; simp
  have a2 := rw_new w1 [s0, s1, s2, s3, s4, s5, s6, s7] 55 rfl
  have o2 := oneB' w1 (.cells #[s0, s1, s2, s3, s4, s5, s6, s7] 55)
  simp only [List.toArray] at a2
  generalize h2 : w1.alloc (.cells #[s0, s1, s2, s3, s4, s5, s6, s7] 55) = w2 at *
  have z2 : w2.heap.size = w.heap.size + 2 := by rw [← h2]; simp [z1]
  have a3 := rw_new w2 [Value.slice none 0 0, .slice none 0 0, .int .i64 0, .bool false] 50 rfl
  have o3 := oneB' w2 (.cells #[Value.slice none 0 0, .slice none 0 0, .int .i64 0, .bool false] 50)
  simp only [List.toArray] at a3
  generalize h3 : w2.alloc (.cells #[Value.slice none 0 0, .slice none 0 0, .int .i64 0, .bool false] 50) = w3 at *
  have z3 : w3.heap.size = w.heap.size + 3 := by rw [← h3]; simp [z2]
  have a4 := rw_new w3 [Value.int .i64 0, .int .i64 0, .int .u64 0, .slice none 0 0, .int .i64 0, .int .i64 0, .int .i64 0, .int .i64 0] 55 rfl
  have o4 := oneB' w3 (.cells #[Value.int .i64 0, .int .i64 0, .int .u64 0, .slice none 0 0, .int .i64 0, .int .i64 0, .int .i64 0, .int .i64 0] 55)
  simp only [List.toArray] at a4
  rw [z1] at a2
  rw [z2] at a3
  rw [z3] at a4
  have B2 := bel' o1 o2 o1.size
  have B3 := bel' B2 o3 B2.size
  exact ⟨((a1.below o2).below o3).below o4, (a2.below o3).below o4, a3.below o4, a4, bel' B3 o4 B3.size⟩
end

set_option maxRecDepth 100000 in
set_option maxHeartbeats 16000000 in
theorem rapp_big (w : World) (a1 a2 aL : Option Addr) (n1 c1 n2 c2 lL cL : Nat) (left : Int) (down : Bool) (frm n ep used sure gone : Nat) (er : Int) (b : List UInt8) (hb : b.length ≤ 100000) (h : 4096 < b.length) :
    Calls Try.prog 25 #[.agg #[Value.slice a1 n1 c1, .slice a2 n2 c2, .int .i64 left, .bool down], .agg #[Value.int .i64 (frm : Int), .int .i64 (n : Int), .int .u64 (ep : Int), .slice aL lL cL, .int .i64 (used : Int), .int .i64 (sure : Int), .int .i64 (gone : Int), .int .i64 er], .string ⟨b.toArray⟩] w fun e w' => e = .returned (.tuple #[.agg #[Value.slice a1 n1 c1, .slice a2 n2 c2, .int .i64 left, .bool down], .agg #[Value.int .i64 (frm : Int), .int .i64 (n : Int), .int .u64 (ep : Int), .slice aL lL cL, .int .i64 (used : Int), .int .i64 (sure : Int), .int .i64 (gone : Int), .int .i64 er], .int .i64 0, .int .i64 13]) ∧ Below w.heap.size w w' := by
  have U0 := UA.start w (.slice a1 n1 c1) (.slice a2 n2 c2) (.int .i64 left) (.bool down) (.int .i64 (frm : Int)) (.int .i64 (n : Int)) (.int .u64 (ep : Int)) (.slice aL lL cL) (.int .i64 (used : Int)) (.int .i64 (sure : Int)) (.int .i64 (gone : Int)) (.int .i64 er)
  have HU0 := Go.Lib.hid U0
  have hd := decide_eq_true h
  have hdi : decide ((4096 : Int) < (b.length : Int)) = true := decide_eq_true (by omega)
  clear U0
  have U0 := HU0.out
  clear U0
  go_enter Try.func25, Try.ntmps25
  go_wp2_with fail
  generalize ((((w.alloc (.cells #[Value.slice a1 n1 c1, .slice a2 n2 c2, .int .i64 left, .bool down] 50)).alloc (.cells #[Value.int .i64 (frm : Int), .int .i64 (n : Int), .int .u64 (ep : Int), .slice aL lL cL, .int .i64 (used : Int), .int .i64 (sure : Int), .int .i64 (gone : Int), .int .i64 er] 55)).alloc (.cells #[Value.slice none 0 0, .slice none 0 0, .int .i64 0, .bool false] 50)).alloc (.cells #[Value.int .i64 0, .int .i64 0, .int .u64 0, .slice none 0 0, .int .i64 0, .int .i64 0, .int .i64 0, .int .i64 0] 55)) = w4 at *
  rw [show w.heap.size + 1 + 1 = w.heap.size + 2 from rfl, show w.heap.size + 2 + 1 = w.heap.size + 3 from rfl]
  have HU := HU0
  clear HU0
  refine NB.wp_region_s [2, 3] (fun w' => Rw w' w.heap.size [Value.slice a1 n1 c1, .slice a2 n2 c2, .int .i64 left, .bool down] 50 ∧ Rw w' (w.heap.size + 1) [Value.int .i64 (frm : Int), .int .i64 (n : Int), .int .u64 (ep : Int), .slice aL lL cL, .int .i64 (used : Int), .int .i64 (sure : Int), .int .i64 (gone : Int), .int .i64 er] 55) (by kernel_rfl) ?_
  have U9 := HU.out.below (dB' _)
  clear HU
  have hst : ∀ x y : World, (Rw x w.heap.size [Value.slice a1 n1 c1, .slice a2 n2 c2, .int .i64 left, .bool down] 50 ∧ Rw x (w.heap.size + 1) [Value.int .i64 (frm : Int), .int .i64 (n : Int), .int .u64 (ep : Int), .slice aL lL cL, .int .i64 (used : Int), .int .i64 (sure : Int), .int .i64 (gone : Int), .int .i64 er] 55) → Below x.heap.size x y → (Rw y w.heap.size [Value.slice a1 n1 c1, .slice a2 n2 c2, .int .i64 left, .bool down] 50 ∧ Rw y (w.heap.size + 1) [Value.int .i64 (frm : Int), .int .i64 (n : Int), .int .u64 (ep : Int), .slice aL lL cL, .int .i64 (used : Int), .int .i64 (sure : Int), .int .i64 (gone : Int), .int .i64 er] 55) := fun x y h hb => ⟨h.1.below hb, h.2.below hb⟩
  generalize World.drew _ = w9 at *
  have hA := And.intro U9.p3 U9.p4
  refine NB.s_a 0 rfl (by kernel_rfl) (by go_simp) _ hA hst (fun w' h => NB.run_op_load_agg (off := 0) (m := 4) rfl rfl Try.underlying50 rfl _ _ _ h.1 (by kernel_rfl) (Nat.le_refl _) _ rfl (Below.refl _ _)) (fun K hK => ?_); go_simp; refine hK _ ?_; clear hK K
  refine NB.s_a 1 rfl (by kernel_rfl) (by go_simp) _ hA hst (fun w' h => NB.run_op_load_agg (off := 0) (m := 8) rfl rfl Try.underlying55 rfl _ _ _ h.2 (by kernel_rfl) (Nat.le_refl _) _ rfl (Below.refl _ _)) (fun K hK => ?_); go_simp; refine hK _ ?_; clear hK K
  refine NB.s_w 2 rfl (by kernel_rfl) (by kernel_rfl) rfl (fun Q' hK => ?_)
  refine NB.wpList_store_agg_any rfl 50 (.tmp 6) (.tmp 17) rfl rfl (w.heap.size + 2) 0 #[Value.slice a1 n1 c1, .slice a2 n2 c2, .int .i64 left, .bool down] rfl rfl 50 #[Value.slice none 0 0, .slice none 0 0, .int .i64 0, .bool false] U9.p6 (by kernel_rfl) (Nat.le_refl _) (by intro v hv; simp only [List.mem_cons, List.not_mem_nil, or_false] at hv; rcases hv with rfl | rfl | rfl | rfl <;> rfl) _ rfl ?_
  intro w8 hg8 hc8 hs8
  have K8 := (NB.Kp.refl (fun k => k = w.heap.size + 2) w9).grown hg8 (fun k e => .inl (by cases e; rfl))
  have U8 := U9.outD K8 hc8
  have hA := And.intro U8.p3 U8.p4
  refine hK _ _ ⟨hA, ?_⟩
  clear hK Q' U9 hg8 hc8 hs8 K8
  refine NB.s_w 3 rfl (by kernel_rfl) (by kernel_rfl) rfl (fun Q' hK => ?_)
  refine NB.wpList_store_agg_any rfl 55 (.tmp 7) (.tmp 18) rfl rfl (w.heap.size + 3) 0 #[Value.int .i64 (frm : Int), .int .i64 (n : Int), .int .u64 (ep : Int), .slice aL lL cL, .int .i64 (used : Int), .int .i64 (sure : Int), .int .i64 (gone : Int), .int .i64 er] rfl rfl 55 #[Value.int .i64 0, .int .i64 0, .int .u64 0, .slice none 0 0, .int .i64 0, .int .i64 0, .int .i64 0, .int .i64 0] U8.p7 (by kernel_rfl) (Nat.le_refl _) (by intro v hv; simp only [List.mem_cons, List.not_mem_nil, or_false] at hv; rcases hv with rfl | rfl | rfl | rfl | rfl | rfl | rfl | rfl <;> rfl) _ rfl ?_
  intro w7 hg7 hc7 hs7
  have K7 := (NB.Kp.refl (fun k => k = w.heap.size + 3) w8).grown hg7 (fun k e => .inl (by cases e; rfl))
  have U7 := U8.outS K7 hc7
  have hA := And.intro U7.p3 U7.p4
  refine hK _ _ ⟨hA, ?_⟩
  clear hK Q' U8 hg7 hc7 hs7 K7 hA hst
  refine NB.s_p 4 rfl (by kernel_rfl) (fun K hK => ?_); go_simp; refine hK _ ?_; clear hK K
  refine NB.s_p 5 rfl (by kernel_rfl) (fun K hK => ?_); go_simp; refine hK _ ?_; clear hK K
  refine NB.s_end (by kernel_rfl) ?_
  have HU := Go.Lib.hid U7
  clear U7
  go_wp2_with fail
  have U7 := HU.out
  have p6 := U7.p6; have p7 := U7.p7
  have x0 := p6.cell 0 _ rfl
  have x1 := p6.cell 1 _ rfl
  have x2 := p6.cell 2 _ rfl
  have x3 := p6.cell 3 _ rfl
  have y0 := p7.cell 0 _ rfl
  have y1 := p7.cell 1 _ rfl
  have y2 := p7.cell 2 _ rfl
  have y3 := p7.cell 3 _ rfl
  have y4 := p7.cell 4 _ rfl
  have y5 := p7.cell 5 _ rfl
  have y6 := p7.cell 6 _ rfl
  have y7 := p7.cell 7 _ rfl
  have hlt6 := p6.lt
  have hlt7 := p7.lt
  refine bodyPost_ret (v := .tuple #[.agg #[Value.slice a1 n1 c1, .slice a2 n2 c2, .int .i64 left, .bool down], .agg #[Value.int .i64 (frm : Int), .int .i64 (n : Int), .int .u64 (ep : Int), .slice aL lL cL, .int .i64 (used : Int), .int .i64 (sure : Int), .int .i64 (gone : Int), .int .i64 er], .int .i64 0, .int .i64 13]) (by simp [results, Try.results25, go_sem, x0, x1, x2, x3, y0, y1, y2, y3, y4, y5, y6, y7, hlt6, hlt7]) rfl ?_
  exact ⟨rfl, U7.bel⟩

set_option maxRecDepth 100000 in
set_option maxHeartbeats 16000000 in
theorem rapp_err (w : World) (a1 a2 aL : Option Addr) (n1 c1 n2 c2 lL cL : Nat) (left : Int) (down : Bool) (frm n ep used sure gone : Nat) (er : Int) (b : List UInt8) (hb : b.length ≤ 100000) (h : ¬ 4096 < b.length) (he : er ≠ 0) :
    Calls Try.prog 25 #[.agg #[Value.slice a1 n1 c1, .slice a2 n2 c2, .int .i64 left, .bool down], .agg #[Value.int .i64 (frm : Int), .int .i64 (n : Int), .int .u64 (ep : Int), .slice aL lL cL, .int .i64 (used : Int), .int .i64 (sure : Int), .int .i64 (gone : Int), .int .i64 er], .string ⟨b.toArray⟩] w fun e w' => e = .returned (.tuple #[.agg #[Value.slice a1 n1 c1, .slice a2 n2 c2, .int .i64 left, .bool down], .agg #[Value.int .i64 (frm : Int), .int .i64 (n : Int), .int .u64 (ep : Int), .slice aL lL cL, .int .i64 (used : Int), .int .i64 (sure : Int), .int .i64 (gone : Int), .int .i64 er], .int .i64 0, .int .i64 er]) ∧ Below w.heap.size w w' := by
  have U0 := UA.start w (.slice a1 n1 c1) (.slice a2 n2 c2) (.int .i64 left) (.bool down) (.int .i64 (frm : Int)) (.int .i64 (n : Int)) (.int .u64 (ep : Int)) (.slice aL lL cL) (.int .i64 (used : Int)) (.int .i64 (sure : Int)) (.int .i64 (gone : Int)) (.int .i64 er)
  have HU0 := Go.Lib.hid U0
  have hd := decide_eq_false h
  have hdi : decide ((4096 : Int) < (b.length : Int)) = false := decide_eq_false (by omega)
  have hdn : (er == (0 : Int)) = false := beq_eq_false_iff_ne.2 he
  clear U0
  have U0 := HU0.out
  have p7 := U0.p4.cell 7 _ rfl
  clear U0
  go_enter Try.func25, Try.ntmps25
  go_wp2_with fail
  clear p7
  generalize ((((w.alloc (.cells #[Value.slice a1 n1 c1, .slice a2 n2 c2, .int .i64 left, .bool down] 50)).alloc (.cells #[Value.int .i64 (frm : Int), .int .i64 (n : Int), .int .u64 (ep : Int), .slice aL lL cL, .int .i64 (used : Int), .int .i64 (sure : Int), .int .i64 (gone : Int), .int .i64 er] 55)).alloc (.cells #[Value.slice none 0 0, .slice none 0 0, .int .i64 0, .bool false] 50)).alloc (.cells #[Value.int .i64 0, .int .i64 0, .int .u64 0, .slice none 0 0, .int .i64 0, .int .i64 0, .int .i64 0, .int .i64 0] 55)) = w4 at *
  rw [show w.heap.size + 1 + 1 = w.heap.size + 2 from rfl, show w.heap.size + 2 + 1 = w.heap.size + 3 from rfl]
  have HU := HU0
  clear HU0
  refine NB.wp_region_s [4, 5] (fun w' => Rw w' w.heap.size [Value.slice a1 n1 c1, .slice a2 n2 c2, .int .i64 left, .bool down] 50 ∧ Rw w' (w.heap.size + 1) [Value.int .i64 (frm : Int), .int .i64 (n : Int), .int .u64 (ep : Int), .slice aL lL cL, .int .i64 (used : Int), .int .i64 (sure : Int), .int .i64 (gone : Int), .int .i64 er] 55) (by kernel_rfl) ?_
  have U9 := HU.out.below (dB' _)
  clear HU
  have hst : ∀ x y : World, (Rw x w.heap.size [Value.slice a1 n1 c1, .slice a2 n2 c2, .int .i64 left, .bool down] 50 ∧ Rw x (w.heap.size + 1) [Value.int .i64 (frm : Int), .int .i64 (n : Int), .int .u64 (ep : Int), .slice aL lL cL, .int .i64 (used : Int), .int .i64 (sure : Int), .int .i64 (gone : Int), .int .i64 er] 55) → Below x.heap.size x y → (Rw y w.heap.size [Value.slice a1 n1 c1, .slice a2 n2 c2, .int .i64 left, .bool down] 50 ∧ Rw y (w.heap.size + 1) [Value.int .i64 (frm : Int), .int .i64 (n : Int), .int .u64 (ep : Int), .slice aL lL cL, .int .i64 (used : Int), .int .i64 (sure : Int), .int .i64 (gone : Int), .int .i64 er] 55) := fun x y h hb => ⟨h.1.below hb, h.2.below hb⟩
  generalize World.drew _ = w9 at *
  have hA := And.intro U9.p3 U9.p4
  refine NB.s_p 2 rfl (by kernel_rfl) (fun K hK => ?_); go_simp; refine hK _ ?_; clear hK K
  refine NB.s_a 3 rfl (by kernel_rfl) (by go_simp) _ hA hst (fun w' h => NB.run_op_load rfl rfl Try.underlying26 rfl (h.2.cell 7 _ rfl) (Below.refl _ _)) (fun K hK => ?_); go_simp; refine hK _ ?_; clear hK K
  refine NB.s_a 0 rfl (by kernel_rfl) (by go_simp) _ hA hst (fun w' h => NB.run_op_load_agg (off := 0) (m := 4) rfl rfl Try.underlying50 rfl _ _ _ h.1 (by kernel_rfl) (Nat.le_refl _) _ rfl (Below.refl _ _)) (fun K hK => ?_); go_simp; refine hK _ ?_; clear hK K
  refine NB.s_a 1 rfl (by kernel_rfl) (by go_simp) _ hA hst (fun w' h => NB.run_op_load_agg (off := 0) (m := 8) rfl rfl Try.underlying55 rfl _ _ _ h.2 (by kernel_rfl) (Nat.le_refl _) _ rfl (Below.refl _ _)) (fun K hK => ?_); go_simp; refine hK _ ?_; clear hK K
  refine NB.s_w 4 rfl (by kernel_rfl) (by kernel_rfl) rfl (fun Q' hK => ?_)
  refine NB.wpList_store_agg_any rfl 50 (.tmp 6) (.tmp 22) rfl rfl (w.heap.size + 2) 0 #[Value.slice a1 n1 c1, .slice a2 n2 c2, .int .i64 left, .bool down] rfl rfl 50 #[Value.slice none 0 0, .slice none 0 0, .int .i64 0, .bool false] U9.p6 (by kernel_rfl) (Nat.le_refl _) (by intro v hv; simp only [List.mem_cons, List.not_mem_nil, or_false] at hv; rcases hv with rfl | rfl | rfl | rfl <;> rfl) _ rfl ?_
  intro w8 hg8 hc8 hs8
  have K8 := (NB.Kp.refl (fun k => k = w.heap.size + 2) w9).grown hg8 (fun k e => .inl (by cases e; rfl))
  have U8 := U9.outD K8 hc8
  have hA := And.intro U8.p3 U8.p4
  refine hK _ _ ⟨hA, ?_⟩
  clear hK Q' U9 hg8 hc8 hs8 K8
  refine NB.s_w 5 rfl (by kernel_rfl) (by kernel_rfl) rfl (fun Q' hK => ?_)
  refine NB.wpList_store_agg_any rfl 55 (.tmp 7) (.tmp 23) rfl rfl (w.heap.size + 3) 0 #[Value.int .i64 (frm : Int), .int .i64 (n : Int), .int .u64 (ep : Int), .slice aL lL cL, .int .i64 (used : Int), .int .i64 (sure : Int), .int .i64 (gone : Int), .int .i64 er] rfl rfl 55 #[Value.int .i64 0, .int .i64 0, .int .u64 0, .slice none 0 0, .int .i64 0, .int .i64 0, .int .i64 0, .int .i64 0] U8.p7 (by kernel_rfl) (Nat.le_refl _) (by intro v hv; simp only [List.mem_cons, List.not_mem_nil, or_false] at hv; rcases hv with rfl | rfl | rfl | rfl | rfl | rfl | rfl | rfl <;> rfl) _ rfl ?_
  intro w7 hg7 hc7 hs7
  have K7 := (NB.Kp.refl (fun k => k = w.heap.size + 3) w8).grown hg7 (fun k e => .inl (by cases e; rfl))
  have U7 := U8.outS K7 hc7
  have hA := And.intro U7.p3 U7.p4
  refine hK _ _ ⟨hA, ?_⟩
  clear hK Q' U8 hg7 hc7 hs7 K7 hA hst
  refine NB.s_p 6 rfl (by kernel_rfl) (fun K hK => ?_); go_simp; refine hK _ ?_; clear hK K
  refine NB.s_p 7 rfl (by kernel_rfl) (fun K hK => ?_); go_simp; refine hK _ ?_; clear hK K
  refine NB.s_end (by kernel_rfl) ?_
  have HU := Go.Lib.hid U7
  clear U7
  go_wp2_with fail
  have U7 := HU.out
  have p6 := U7.p6; have p7 := U7.p7
  have x0 := p6.cell 0 _ rfl
  have x1 := p6.cell 1 _ rfl
  have x2 := p6.cell 2 _ rfl
  have x3 := p6.cell 3 _ rfl
  have y0 := p7.cell 0 _ rfl
  have y1 := p7.cell 1 _ rfl
  have y2 := p7.cell 2 _ rfl
  have y3 := p7.cell 3 _ rfl
  have y4 := p7.cell 4 _ rfl
  have y5 := p7.cell 5 _ rfl
  have y6 := p7.cell 6 _ rfl
  have y7 := p7.cell 7 _ rfl
  have hlt6 := p6.lt
  have hlt7 := p7.lt
  refine bodyPost_ret (v := .tuple #[.agg #[Value.slice a1 n1 c1, .slice a2 n2 c2, .int .i64 left, .bool down], .agg #[Value.int .i64 (frm : Int), .int .i64 (n : Int), .int .u64 (ep : Int), .slice aL lL cL, .int .i64 (used : Int), .int .i64 (sure : Int), .int .i64 (gone : Int), .int .i64 er], .int .i64 0, .int .i64 er]) (by simp [results, Try.results25, go_sem, x0, x1, x2, x3, y0, y1, y2, y3, y4, y5, y6, y7, hlt6, hlt7]) rfl ?_
  exact ⟨rfl, U7.bel⟩

set_option maxRecDepth 100000 in
set_option maxHeartbeats 16000000 in
theorem rapp_full (w : World) (a1 a2 aL : Option Addr) (n1 c1 n2 c2 lL cL : Nat) (left : Int) (down : Bool) (frm n ep used sure gone : Nat) (er : Int) (b : List UInt8) (hb : b.length ≤ 100000) (h : ¬ 4096 < b.length) (hn : (n : Int) - (used : Int) < (needM b.length : Int)) (hnl : n ≤ 1000000) (hul : used ≤ 1000000) :
    Calls Try.prog 25 #[.agg #[Value.slice a1 n1 c1, .slice a2 n2 c2, .int .i64 left, .bool down], .agg #[Value.int .i64 (frm : Int), .int .i64 (n : Int), .int .u64 (ep : Int), .slice aL lL cL, .int .i64 (used : Int), .int .i64 (sure : Int), .int .i64 (gone : Int), .int .i64 0], .string ⟨b.toArray⟩] w fun e w' => e = .returned (.tuple #[.agg #[Value.slice a1 n1 c1, .slice a2 n2 c2, .int .i64 left, .bool down], .agg #[Value.int .i64 (frm : Int), .int .i64 (n : Int), .int .u64 (ep : Int), .slice aL lL cL, .int .i64 (used : Int), .int .i64 (sure : Int), .int .i64 (gone : Int), .int .i64 0], .int .i64 0, .int .i64 21]) ∧ Below w.heap.size w w' := by
  have U0 := UA.start w (.slice a1 n1 c1) (.slice a2 n2 c2) (.int .i64 left) (.bool down) (.int .i64 (frm : Int)) (.int .i64 (n : Int)) (.int .u64 (ep : Int)) (.slice aL lL cL) (.int .i64 (used : Int)) (.int .i64 (sure : Int)) (.int .i64 (gone : Int)) (.int .i64 0)
  have HU0 := Go.Lib.hid U0
  obtain ⟨N, hN⟩ : ∃ N, needM b.length = N := ⟨_, rfl⟩
  have hneed := fun w => rneed_any w b.length (by omega)
  rw [hN] at hn hneed
  have HND := Go.Lib.hid hneed
  clear hneed
  have hd := decide_eq_false h
  have hdi : decide ((4096 : Int) < (b.length : Int)) = false := decide_eq_false (by omega)
  have hdn : decide ((n : Int) - (used : Int) < (N : Int)) = true := decide_eq_true hn
  clear U0
  have U0 := HU0.out
  have p1 := U0.p4.cell 1 _ rfl
  have p4 := U0.p4.cell 4 _ rfl
  have p7 := U0.p4.cell 7 _ rfl
  clear U0
  go_enter Try.func25, Try.ntmps25
  go_wp2_with fail
  refine (HND.out _).mono ?_
  rintro e w5 ⟨rfl, hw5⟩
  subst w5
  go_wp2_with fail
  clear p1 p4 p7
  generalize ((((w.alloc (.cells #[Value.slice a1 n1 c1, .slice a2 n2 c2, .int .i64 left, .bool down] 50)).alloc (.cells #[Value.int .i64 (frm : Int), .int .i64 (n : Int), .int .u64 (ep : Int), .slice aL lL cL, .int .i64 (used : Int), .int .i64 (sure : Int), .int .i64 (gone : Int), .int .i64 0] 55)).alloc (.cells #[Value.slice none 0 0, .slice none 0 0, .int .i64 0, .bool false] 50)).alloc (.cells #[Value.int .i64 0, .int .i64 0, .int .u64 0, .slice none 0 0, .int .i64 0, .int .i64 0, .int .i64 0, .int .i64 0] 55)) = w4 at *
  rw [show w.heap.size + 1 + 1 = w.heap.size + 2 from rfl, show w.heap.size + 2 + 1 = w.heap.size + 3 from rfl]
  have HU := HU0
  clear HU0
  refine NB.wp_region_s [2, 3] (fun w' => Rw w' w.heap.size [Value.slice a1 n1 c1, .slice a2 n2 c2, .int .i64 left, .bool down] 50 ∧ Rw w' (w.heap.size + 1) [Value.int .i64 (frm : Int), .int .i64 (n : Int), .int .u64 (ep : Int), .slice aL lL cL, .int .i64 (used : Int), .int .i64 (sure : Int), .int .i64 (gone : Int), .int .i64 0] 55) (by kernel_rfl) ?_
  have U9 := HU.out.below (dB' _)
  clear HU
  have hst : ∀ x y : World, (Rw x w.heap.size [Value.slice a1 n1 c1, .slice a2 n2 c2, .int .i64 left, .bool down] 50 ∧ Rw x (w.heap.size + 1) [Value.int .i64 (frm : Int), .int .i64 (n : Int), .int .u64 (ep : Int), .slice aL lL cL, .int .i64 (used : Int), .int .i64 (sure : Int), .int .i64 (gone : Int), .int .i64 0] 55) → Below x.heap.size x y → (Rw y w.heap.size [Value.slice a1 n1 c1, .slice a2 n2 c2, .int .i64 left, .bool down] 50 ∧ Rw y (w.heap.size + 1) [Value.int .i64 (frm : Int), .int .i64 (n : Int), .int .u64 (ep : Int), .slice aL lL cL, .int .i64 (used : Int), .int .i64 (sure : Int), .int .i64 (gone : Int), .int .i64 0] 55) := fun x y h hb => ⟨h.1.below hb, h.2.below hb⟩
  generalize World.drew _ = w9 at *
  have hA := And.intro U9.p3 U9.p4
  refine NB.s_a 0 rfl (by kernel_rfl) (by go_simp) _ hA hst (fun w' h => NB.run_op_load_agg (off := 0) (m := 4) rfl rfl Try.underlying50 rfl _ _ _ h.1 (by kernel_rfl) (Nat.le_refl _) _ rfl (Below.refl _ _)) (fun K hK => ?_); go_simp; refine hK _ ?_; clear hK K
  refine NB.s_a 1 rfl (by kernel_rfl) (by go_simp) _ hA hst (fun w' h => NB.run_op_load_agg (off := 0) (m := 8) rfl rfl Try.underlying55 rfl _ _ _ h.2 (by kernel_rfl) (Nat.le_refl _) _ rfl (Below.refl _ _)) (fun K hK => ?_); go_simp; refine hK _ ?_; clear hK K
  refine NB.s_w 2 rfl (by kernel_rfl) (by kernel_rfl) rfl (fun Q' hK => ?_)
  refine NB.wpList_store_agg_any rfl 50 (.tmp 6) (.tmp 36) rfl rfl (w.heap.size + 2) 0 #[Value.slice a1 n1 c1, .slice a2 n2 c2, .int .i64 left, .bool down] rfl rfl 50 #[Value.slice none 0 0, .slice none 0 0, .int .i64 0, .bool false] U9.p6 (by kernel_rfl) (Nat.le_refl _) (by intro v hv; simp only [List.mem_cons, List.not_mem_nil, or_false] at hv; rcases hv with rfl | rfl | rfl | rfl <;> rfl) _ rfl ?_
  intro w8 hg8 hc8 hs8
  have K8 := (NB.Kp.refl (fun k => k = w.heap.size + 2) w9).grown hg8 (fun k e => .inl (by cases e; rfl))
  have U8 := U9.outD K8 hc8
  have hA := And.intro U8.p3 U8.p4
  refine hK _ _ ⟨hA, ?_⟩
  clear hK Q' U9 hg8 hc8 hs8 K8
  refine NB.s_w 3 rfl (by kernel_rfl) (by kernel_rfl) rfl (fun Q' hK => ?_)
  refine NB.wpList_store_agg_any rfl 55 (.tmp 7) (.tmp 37) rfl rfl (w.heap.size + 3) 0 #[Value.int .i64 (frm : Int), .int .i64 (n : Int), .int .u64 (ep : Int), .slice aL lL cL, .int .i64 (used : Int), .int .i64 (sure : Int), .int .i64 (gone : Int), .int .i64 0] rfl rfl 55 #[Value.int .i64 0, .int .i64 0, .int .u64 0, .slice none 0 0, .int .i64 0, .int .i64 0, .int .i64 0, .int .i64 0] U8.p7 (by kernel_rfl) (Nat.le_refl _) (by intro v hv; simp only [List.mem_cons, List.not_mem_nil, or_false] at hv; rcases hv with rfl | rfl | rfl | rfl | rfl | rfl | rfl | rfl <;> rfl) _ rfl ?_
  intro w7 hg7 hc7 hs7
  have K7 := (NB.Kp.refl (fun k => k = w.heap.size + 3) w8).grown hg7 (fun k e => .inl (by cases e; rfl))
  have U7 := U8.outS K7 hc7
  have hA := And.intro U7.p3 U7.p4
  refine hK _ _ ⟨hA, ?_⟩
  clear hK Q' U8 hg7 hc7 hs7 K7 hA hst
  refine NB.s_p 4 rfl (by kernel_rfl) (fun K hK => ?_); go_simp; refine hK _ ?_; clear hK K
  refine NB.s_p 5 rfl (by kernel_rfl) (fun K hK => ?_); go_simp; refine hK _ ?_; clear hK K
  refine NB.s_end (by kernel_rfl) ?_
  have HU := Go.Lib.hid U7
  clear U7
  go_wp2_with fail
  have U7 := HU.out
  have p6 := U7.p6; have p7 := U7.p7
  have x0 := p6.cell 0 _ rfl
  have x1 := p6.cell 1 _ rfl
  have x2 := p6.cell 2 _ rfl
  have x3 := p6.cell 3 _ rfl
  have y0 := p7.cell 0 _ rfl
  have y1 := p7.cell 1 _ rfl
  have y2 := p7.cell 2 _ rfl
  have y3 := p7.cell 3 _ rfl
  have y4 := p7.cell 4 _ rfl
  have y5 := p7.cell 5 _ rfl
  have y6 := p7.cell 6 _ rfl
  have y7 := p7.cell 7 _ rfl
  have hlt6 := p6.lt
  have hlt7 := p7.lt
  refine bodyPost_ret (v := .tuple #[.agg #[Value.slice a1 n1 c1, .slice a2 n2 c2, .int .i64 left, .bool down], .agg #[Value.int .i64 (frm : Int), .int .i64 (n : Int), .int .u64 (ep : Int), .slice aL lL cL, .int .i64 (used : Int), .int .i64 (sure : Int), .int .i64 (gone : Int), .int .i64 0], .int .i64 0, .int .i64 21]) (by simp [results, Try.results25, go_sem, x0, x1, x2, x3, y0, y1, y2, y3, y4, y5, y6, y7, hlt6, hlt7]) rfl ?_
  exact ⟨rfl, U7.bel⟩
end Go.Proofs.Ytmgkaoenjnnlmaa
namespace Go.Proofs.Ytmgkaoenjnnlmaa
open Go.RowKit
open Go.NB.Crc
open Go.NB (Rd Dk Kp val)

theorem write_bd (D : Dk) (i : Int) (b : List UInt8) (h1 : -1 ≤ D.left) (h2 : D.left ≤ 9223372036854775807) : -1 ≤ (D.write i b).1.left ∧ (D.write i b).1.left ≤ 9223372036854775807 ∧ (D.write i b).1.waits.length ≤ D.waits.length + 1 := by
  unfold Dk.write
  split
  · exact ⟨h1, h2, Nat.le_succ _⟩
  split
  · exact ⟨h1, h2, Nat.le_succ _⟩
  split
  · exact ⟨h1, h2, by simp⟩
  · refine ⟨?_, ?_, by simp⟩ <;> simp only <;> omega
theorem need_bd (n : Nat) (h : n ≤ 4096) : 1 ≤ needM n ∧ needM n ≤ 92 ∧ ∀ i, i < needM n → 45 * i ≤ n := by
  unfold needM
  refine ⟨by omega, by omega, fun i hi => ?_⟩
  omega
theorem piece_le (b : List UInt8) (i : Nat) : (piece b i).length ≤ 45 := by simp only [piece, List.length_take]; omega
/-- What appending tells. -/
def AppR (w : World) (v0 s0 : Value) (r : Dk × Sg × Nat × Int) (e : Ending) (w' : World) : Prop :=
  ∃ v s, e = .returned (.tuple #[v, s, .int .i64 (r.2.2.1 : Int), .int .i64 r.2.2.2]) ∧ RefD w' v r.1 ∧ RefS w' s r.2.1 ∧ Below w.heap.size w w' ∧ (∀ k, locR v k → locR v0 k ∨ w.heap.size ≤ k) ∧ (∀ k, locS s k → locS s0 k ∨ w.heap.size ≤ k)
theorem rapp_fails {D : Dk} {S : Sg} {b : List UInt8} {N : Nat} {R : Dk × Int} (h1 : ¬ 4096 < b.length) (h2 : S.e = 0) (hN : needM b.length = N) (h3 : ¬ (S.n : Int) - S.used < N) (h4 : wrM S b N N 0 D = R) (h5 : R.2 ≠ 0) : appM D S b = (R.1, { S with e := R.2 }, 0, R.2) := by
  subst hN; subst h4
  unfold appM
  rw [if_neg h1, if_neg (fun h => h h2), if_neg h3, if_pos h5]
theorem rapp_goods {D : Dk} {S : Sg} {b : List UInt8} {N : Nat} {R : Dk × Int} (h1 : ¬ 4096 < b.length) (h2 : S.e = 0) (hN : needM b.length = N) (h3 : ¬ (S.n : Int) - S.used < N) (h4 : wrM S b N N 0 D = R) (h5 : R.2 = 0) : appM D S b = (R.1, { S with l := S.l ++ [b], used := S.used + N }, S.l.length, 0) := by
  subst hN; subst h4
  unfold appM
  rw [if_neg h1, if_neg (fun h => h h2), if_neg h3, if_neg (fun h => h h5)]

set_option maxRecDepth 100000 in
set_option maxHeartbeats 32000000 in
theorem rapp_go (w : World) (D : Dk) (S : Sg) (a1 a2 aL : Option Addr) (c1 c2 cL : Nat) (b : List UInt8) (h1 : Rd 1 w a1 D.l.length c1 (strsL D.l)) (h2 : Rd 2 w a2 D.waits.length c2 (wsL D.waits)) (hs : Rd 1 w aL S.l.length cL (strsL S.l))
    (hl : -1 ≤ D.left) (hl2 : D.left ≤ 9223372036854775807) (hw : D.waits.length ≤ 90000) (hfr : S.frm ≤ 1000000) (hn : S.n ≤ 1000000) (hu : S.used ≤ 1000000) (hep : S.epoch < 4294967296) (hsl : S.l.length ≤ 60000)
    (h : ¬ 4096 < b.length) (he : S.e = 0) (hrm : ¬ (S.n : Int) - S.used < needM b.length) :
    Calls Try.prog 25 #[.agg #[Value.slice a1 D.l.length c1, .slice a2 D.waits.length c2, .int .i64 D.left, .bool D.down], .agg #[Value.int .i64 (S.frm : Int), .int .i64 (S.n : Int), .int .u64 (S.epoch : Int), .slice aL S.l.length cL, .int .i64 (S.used : Int), .int .i64 (S.sure : Int), .int .i64 (S.gone : Int), .int .i64 0], .string ⟨b.toArray⟩] w (AppR w (rdV a1 D.l.length c1 a2 D.waits.length c2 D.left D.down) (.agg (sgL S aL cL).toArray) (appM D S b)) := by
  have hd := decide_eq_false h
  have hdi : decide ((4096 : Int) < (b.length : Int)) = false := decide_eq_false (by omega)
  obtain ⟨N, hN⟩ : ∃ N, needM b.length = N := ⟨_, rfl⟩
  have hneed := fun w => rneed_any w b.length (by omega)
  obtain ⟨hN1, hN92, hNi⟩ := need_bd b.length (by omega)
  rw [hN] at hrm hneed hN1 hN92 hNi
  have HND := Go.Lib.hid hneed; have HNI := Go.Lib.hid hNi; have HNN := Go.Lib.hid hN
  clear hneed hNi hN
  have hdn : decide ((S.n : Int) - (S.used : Int) < (N : Int)) = false := decide_eq_false hrm
  have HS := Go.Lib.hid hs; have H1 := Go.Lib.hid h1; have H2 := Go.Lib.hid h2
  have hlo1 : ∀ b o, a1 = some ⟨b, o, none⟩ → 0 < D.l.length → b < w.heap.size := fun b o e hn => rd_low h1 b o e (by intro e2; have := congrArg List.length e2; simp [strsL] at this; rw [this] at hn; simp at hn)
  have hlo2 : ∀ b o, a2 = some ⟨b, o, none⟩ → 0 < D.waits.length → b < w.heap.size := fun b o e hn => rd_low h2 b o e (by intro e2; have := congrArg List.length e2; rw [wsl_len] at this; simp at this; omega)
  have hloc0 : ∀ k, locR (rdV a1 D.l.length c1 a2 D.waits.length c2 D.left D.down) k → k < w.heap.size := fun k hk => by
    obtain ⟨b1, m1, e1, b2, m2, e2, l2, d2, o, e, h⟩ := hk
    simp only [rdV, Value.agg.injEq, Array.mk.injEq, List.cons.injEq, Value.slice.injEq] at e
    obtain ⟨⟨rfl, rfl, _⟩, ⟨rfl, rfl, _⟩, _⟩ := e
    exact h.elim (fun h => hlo1 k o h.1 h.2) (fun h => hlo2 k o h.1 h.2)
  have HLOC0 := Go.Lib.hid hloc0
  have hslo : ∀ b o, aL = some ⟨b, o, none⟩ → strsL S.l ≠ [] → b < w.heap.size := fun b o e hn => rd_low hs b o e hn
  have HSLO := Go.Lib.hid hslo
  clear hlo1 hlo2 hloc0 hs h1 h2 hslo
  have U0 := UA.start w (.slice a1 D.l.length c1) (.slice a2 D.waits.length c2) (.int .i64 D.left) (.bool D.down) (.int .i64 (S.frm : Int)) (.int .i64 (S.n : Int)) (.int .u64 (S.epoch : Int)) (.slice aL S.l.length cL) (.int .i64 (S.used : Int)) (.int .i64 (S.sure : Int)) (.int .i64 (S.gone : Int)) (.int .i64 0)
  have HU0 := Go.Lib.hid U0
  have p1 := U0.p4.cell 1 _ rfl
  have p4 := U0.p4.cell 4 _ rfl
  have p7 := U0.p4.cell 7 _ rfl
  clear U0
  go_enter Try.func25, Try.ntmps25
  go_wp2_with fail
  refine (HND.out _).mono ?_
  rintro e w5 ⟨rfl, hw5⟩
  subst w5
  go_wp2_with fail
  clear p1 p4 p7
  generalize ((((w.alloc (.cells #[Value.slice a1 D.l.length c1, .slice a2 D.waits.length c2, .int .i64 D.left, .bool D.down] 50)).alloc (.cells #[Value.int .i64 (S.frm : Int), .int .i64 (S.n : Int), .int .u64 (S.epoch : Int), .slice aL S.l.length cL, .int .i64 (S.used : Int), .int .i64 (S.sure : Int), .int .i64 (S.gone : Int), .int .i64 0] 55)).alloc (.cells #[Value.slice none 0 0, .slice none 0 0, .int .i64 0, .bool false] 50)).alloc (.cells #[Value.int .i64 0, .int .i64 0, .int .u64 0, .slice none 0 0, .int .i64 0, .int .i64 0, .int .i64 0, .int .i64 0] 55)) = w4 at *
  rw [show w.heap.size + 1 + 1 = w.heap.size + 2 from rfl, show w.heap.size + 2 + 1 = w.heap.size + 3 from rfl]
  have HU := HU0
  clear HU0
  have hrd1 := Rd.below H1.out HU.out.bel
  have hrd2 := Rd.below H2.out HU.out.bel
  have U := HU.out
  clear HU hdn hd hdi
  go_loopw [11] (fun y wi => ∃ (i : Nat) (E : Dk) (b1 b2 : Option Addr) (d1 d2 : Nat), y = .int .i64 (i : Int) ∧ i ≤ N ∧ UA w [Value.slice b1 E.l.length d1, .slice b2 E.waits.length d2, .int .i64 E.left, .bool E.down] [Value.int .i64 (S.frm : Int), .int .i64 (S.n : Int), .int .u64 (S.epoch : Int), .slice aL S.l.length cL, .int .i64 (S.used : Int), .int .i64 (S.sure : Int), .int .i64 (S.gone : Int), .int .i64 0] [Value.slice none 0 0, .slice none 0 0, .int .i64 0, .bool false] [Value.int .i64 0, .int .i64 0, .int .u64 0, .slice none 0 0, .int .i64 0, .int .i64 0, .int .i64 0, .int .i64 0] wi ∧ Rd 1 wi b1 E.l.length d1 (strsL E.l) ∧ Rd 2 wi b2 E.waits.length d2 (wsL E.waits) ∧ (∀ k, locR (rdV b1 E.l.length d1 b2 E.waits.length d2 E.left E.down) k → locR (rdV a1 D.l.length c1 a2 D.waits.length c2 D.left D.down) k ∨ w.heap.size + 4 ≤ k) ∧ wrM S b N (N - i) i E = wrM S b N N 0 D ∧ -1 ≤ E.left ∧ E.left ≤ 9223372036854775807 ∧ E.waits.length ≤ 90000 + i) (fun y _ => N - (intOf y).toNat)
  case atStart => exact ⟨0, D, a1, a2, c1, c2, rfl, by omega, U, hrd1, hrd2, fun k hk => .inl hk, rfl, hl, hl2, by omega⟩
  case round =>
    clear U hrd1 hrd2
    obtain ⟨i, E, b1, b2, d1, d2, rfl, hi, U, hr1, hr2, hloc, hwr, hE1, hE2, hEw⟩ := hrel
    have HWR := Go.Lib.hid hwr; have HLOC := Go.Lib.hid hloc; have HR1 := Go.Lib.hid hr1; have HR2 := Go.Lib.hid hr2
    clear hwr hloc hr1 hr2
    by_cases hiN : i < N
    case neg =>
      have hii : ¬ (i : Int) < (N : Int) := by omega
      have hin : decide (i < N) = false := decide_eq_false hiN
      obtain rfl : N = i := by omega
      have hq := HWR.out
      rw [Nat.sub_self] at hq
      have HQ := Go.Lib.hid (show (E, (0 : Int)) = _ from hq)
      clear hq HWR
      have hx1 : ∀ b o, b1 = some ⟨b, o, none⟩ → strsL E.l ≠ [] → (b < w.heap.size ∨ w.heap.size + 4 ≤ b) ∧ b < wr.heap.size := fun b o e hn => ⟨(HLOC.out b (loc_1 b o e (by cases hq : E.l with | nil => rw [hq] at hn; exact absurd rfl hn | cons _ _ => simp))).imp (HLOC0.out b) id, rd_low HR1.out b o e hn⟩
      have hx2 : ∀ b o, b2 = some ⟨b, o, none⟩ → wsL E.waits ≠ [] → (b < w.heap.size ∨ w.heap.size + 4 ≤ b) ∧ b < wr.heap.size := fun b o e hn => ⟨(HLOC.out b (loc_2 b o e (by cases hq : E.waits with | nil => rw [hq] at hn; exact absurd rfl hn | cons _ _ => simp))).imp (HLOC0.out b) id, rd_low HR2.out b o e hn⟩
      have HX1 := Go.Lib.hid hx1; have HX2 := Go.Lib.hid hx2
      clear hx1 hx2
      have hrs := Rd.below HS.out U.bel
      obtain ⟨wb, rfl⟩ : ∃ wb : World, wb = wr := ⟨_, rfl⟩
      have p3 := U.p4.cell 3 _ rfl
      have HU := Go.Lib.hid U
      have hbase : w.heap.size + 4 ≤ wb.heap.size := by have := U.p7.lt; omega
      have HWS := Go.Lib.hid hbase
      clear U hbase
      have wxu : IntKind.i64.wrap ((S.used : Int) + (N : Int)) = (S.used : Int) + (N : Int) := IntWalk.i64_in _ (by omega)
      go_wp2_with (first
        | (at_builtin; refine NB.wpList_append_at rfl (.tmp 73) (.tmp 75) 32 rfl wb.heap.size slTS (.slice none 0 0) 0 [] rfl (World.ownsRow_nil _ _ _ _) aL S.l.length cL (strsL S.l) rfl hrs (strs_one S.l) (by omega) (by unfold maxLen; omega) (Nat.le_refl _) ?_; intro v6 w6 ho6 hg6 hv6; rw [Nat.zero_add, List.nil_append] at ho6; obtain ⟨a6, c6, rfl, _⟩ := NB.rd_of_own ho6; have K6 := (NB.Kp.refl (fun k => w.heap.size + 4 ≤ k) wb).grown hg6 (fun k e => by cases e); have U6 := HU.out.kp K6 (fun _ h => h); have K6n := (NB.Kp.refl (fun _ => False) wb).grown hg6 (fun k e => by cases e); have r1 := K6n.rd HR1.out (fun _ _ _ _ h => h); have r2 := K6n.rd HR2.out (fun _ _ _ _ h => h); have HR1 := Go.Lib.hid r1; have HR2 := Go.Lib.hid r2; have HU6 := Go.Lib.hid U6; have hsz6 := hg6.size; have ho7 := NB.own_keep ho6 (oneB' w6 (.cells #[.string ⟨b.toArray⟩] 9)); have HO7 := Go.Lib.hid ho7; have HSZ7 := Go.Lib.hid (Nat.le_trans hsz6 (oneB' w6 (.cells #[.string ⟨b.toArray⟩] 9)).size); clear r1 r2 K6 K6n hg6 hv6 U6 HU hrs p3 ho6 ho7 hsz6)
        | (at_builtin; refine NB.wpList_append_at rfl (.tmp 77) (.tmp 79) 32 rfl wb.heap.size slTS _ S.l.length (strsL S.l) rfl HO7.out _ 1 1 [strL b] rfl (str_rd w6 b rfl) (str_one _) (by omega) (by unfold maxLen; omega) HSZ7.out ?_; intro v9 w9 ho9 hg9 hv9; obtain ⟨a9, c9, rfl, _⟩ := NB.rd_of_own ho9; have K9 := (NB.Kp.refl (fun k => (Value.slice a6 S.l.length c6).ownBlock = some k) _).grown hg9 (fun k e => .inl e); have U9 := (HU6.out.below (oneB' w6 (.cells #[.string ⟨b.toArray⟩] 9))).kp K9 (fun k e => by have h1 := (HO7.out.lt k e).1; exact Nat.le_trans HWS.out h1); have r1 := K9.rd (Rd.below HR1.out (oneB' w6 (.cells #[.string ⟨b.toArray⟩] 9))) (fun x o e hn hk => by have h1 := (HO7.out.lt x hk).1; have h2 := (HX1.out x o e hn).2; omega); have r2 := K9.rd (Rd.below HR2.out (oneB' w6 (.cells #[.string ⟨b.toArray⟩] 9))) (fun x o e hn hk => by have h1 := (HO7.out.lt x hk).1; have h2 := (HX2.out x o e hn).2; omega); have p3 := U9.p4.cell 3 _ rfl; have f3 := U9.p4.free 3; have p4 := U9.p4.cell 4 _ rfl; have f4 := U9.p4.free 4; rw [strs_snoc'] at ho9; have HO9 := Go.Lib.hid ho9; have HR1 := Go.Lib.hid r1; have HR2 := Go.Lib.hid r2; have HU9 := Go.Lib.hid U9; clear HU6 ho9 hg9 hv9 K9 r1 r2 U9 HO7 HSZ7))
      clear p3 f3 p4 f4
      have U10 := HU9.out.setS 3 (.slice a9 (S.l.length + 1) c9)
      have U11 := U10.setS 4 (.int .i64 ((S.used : Int) + (N : Int)))
      simp only [List.set] at U11
      obtain ⟨a9', c9', e9, hrL, hloL, _⟩ := NB.rd_of_own HO9.out
      cases e9
      have K11 := ((NB.Kp.refl (fun k => k = w.heap.size + 1) w9).setCell (x := ⟨w.heap.size + 1, 3, none⟩) (.inl rfl) (.slice a9 (S.l.length + 1) c9)).setCell (x := ⟨w.heap.size + 1, 4, none⟩) (.inl rfl) (.int .i64 ((S.used : Int) + (N : Int)))
      have r1 := K11.rd HR1.out (fun x o e hn hk => by have := HX1.out x o e hn; omega)
      have r2 := K11.rd HR2.out (fun x o e hn hk => by have := HX2.out x o e hn; omega)
      have hx3 : ∀ x o, a9 = some ⟨x, o, none⟩ → strsL (S.l ++ [b]) ≠ [] → w.heap.size + 4 ≤ x := fun x o e _ => Nat.le_trans HWS.out (hloL x o e).1
      have r3 := K11.rd hrL (fun x o e hn hk => by have := hx3 x o e hn; omega)
      have HX3 := Go.Lib.hid hx3; have HR1 := Go.Lib.hid r1; have HR2 := Go.Lib.hid r2; have HR3 := Go.Lib.hid r3; have HU := Go.Lib.hid U11
      clear HU9 HO9 U10 U11 K11 r1 r2 r3 hx3 hrL hloL
      generalize (w9.setCell ⟨w.heap.size + 1, 3, none⟩ (.slice a9 (S.l.length + 1) c9)).setCell ⟨w.heap.size + 1, 4, none⟩ (.int .i64 ((S.used : Int) + (N : Int))) = w9 at *
      refine NB.wp_region_s [6, 7] (fun w' => Rw w' w.heap.size [Value.slice b1 E.l.length d1, .slice b2 E.waits.length d2, .int .i64 E.left, .bool E.down] 50 ∧ Rw w' (w.heap.size + 1) [Value.int .i64 (S.frm : Int), .int .i64 (S.n : Int), .int .u64 (S.epoch : Int), .slice a9 (S.l.length + 1) c9, .int .i64 ((S.used : Int) + (N : Int)), .int .i64 (S.sure : Int), .int .i64 (S.gone : Int), .int .i64 0] 55) (by kernel_rfl) ?_
      have U9 := HU.out.below (dB' _)
      clear HU
      have r1 := Rd.below HR1.out (dB' _)
      have r2 := Rd.below HR2.out (dB' _)
      have HR1 := Go.Lib.hid r1; have HR2 := Go.Lib.hid r2
      clear r1 r2
      have r3 := Rd.below HR3.out (dB' _)
      have HR3 := Go.Lib.hid r3
      clear r3
      have hst : ∀ x y : World, (Rw x w.heap.size [Value.slice b1 E.l.length d1, .slice b2 E.waits.length d2, .int .i64 E.left, .bool E.down] 50 ∧ Rw x (w.heap.size + 1) [Value.int .i64 (S.frm : Int), .int .i64 (S.n : Int), .int .u64 (S.epoch : Int), .slice a9 (S.l.length + 1) c9, .int .i64 ((S.used : Int) + (N : Int)), .int .i64 (S.sure : Int), .int .i64 (S.gone : Int), .int .i64 0] 55) → Below x.heap.size x y → (Rw y w.heap.size [Value.slice b1 E.l.length d1, .slice b2 E.waits.length d2, .int .i64 E.left, .bool E.down] 50 ∧ Rw y (w.heap.size + 1) [Value.int .i64 (S.frm : Int), .int .i64 (S.n : Int), .int .u64 (S.epoch : Int), .slice a9 (S.l.length + 1) c9, .int .i64 ((S.used : Int) + (N : Int)), .int .i64 (S.sure : Int), .int .i64 (S.gone : Int), .int .i64 0] 55) := fun x y h hb => ⟨h.1.below hb, h.2.below hb⟩
      generalize World.drew _ = w9 at *
      have hA := And.intro U9.p3 U9.p4
      refine NB.s_a 0 rfl (by kernel_rfl) (by go_simp) _ hA hst (fun w' h => NB.run_op_load_agg (off := 0) (m := 4) rfl rfl Try.underlying50 rfl _ _ _ h.1 (by kernel_rfl) (Nat.le_refl _) _ rfl (Below.refl _ _)) (fun K hK => ?_); go_simp; refine hK _ ?_; clear hK K
      refine NB.s_a 1 rfl (by kernel_rfl) (by go_simp) _ hA hst (fun w' h => NB.run_op_load_agg (off := 0) (m := 8) rfl rfl Try.underlying55 rfl _ _ _ h.2 (by kernel_rfl) (Nat.le_refl _) _ rfl (Below.refl _ _)) (fun K hK => ?_); go_simp; refine hK _ ?_; clear hK K
      refine NB.s_p 2 rfl (by kernel_rfl) (fun K hK => ?_); go_simp; refine hK _ ?_; clear hK K
      refine NB.s_a 3 rfl (by kernel_rfl) (by go_simp) _ hA hst (fun w' h => NB.run_op_load rfl rfl Try.underlying32 rfl (h.2.cell 3 _ rfl) (Below.refl _ _)) (fun K hK => ?_); go_simp; refine hK _ ?_; clear hK K
      refine NB.s_p 4 rfl (by kernel_rfl) (fun K hK => ?_); go_simp; refine hK _ ?_; clear hK K
      refine NB.s_p 5 rfl (by kernel_rfl) (fun K hK => ?_); go_simp; refine hK _ ?_; clear hK K
      refine NB.s_w 6 rfl (by kernel_rfl) (by kernel_rfl) rfl (fun Q' hK => ?_)
      refine NB.wpList_store_agg_any rfl 50 (.tmp 6) (.tmp 87) rfl rfl (w.heap.size + 2) 0 #[Value.slice b1 E.l.length d1, .slice b2 E.waits.length d2, .int .i64 E.left, .bool E.down] rfl rfl 50 #[Value.slice none 0 0, .slice none 0 0, .int .i64 0, .bool false] U9.p6 (by kernel_rfl) (Nat.le_refl _) (by intro v hv; simp only [List.mem_cons, List.not_mem_nil, or_false] at hv; rcases hv with rfl | rfl | rfl | rfl <;> rfl) _ rfl ?_
      intro w8 hg8 hc8 hs8
      have K8 := (NB.Kp.refl (fun k => k = w.heap.size + 2) w9).grown hg8 (fun k e => .inl (by cases e; rfl))
      have U8 := U9.outD K8 hc8
      have r1 := K8.rd HR1.out (fun x o e hn hk => by have := HX1.out x o e hn; omega)
      have r2 := K8.rd HR2.out (fun x o e hn hk => by have := HX2.out x o e hn; omega)
      have HR1 := Go.Lib.hid r1; have HR2 := Go.Lib.hid r2
      clear r1 r2
      have r3 := K8.rd HR3.out (fun x o e hn hk => by have := HX3.out x o e hn; omega)
      have HR3 := Go.Lib.hid r3
      clear r3
      have hA := And.intro U8.p3 U8.p4
      refine hK _ _ ⟨hA, ?_⟩
      clear hK Q' U9 hg8 hc8 hs8 K8
      refine NB.s_w 7 rfl (by kernel_rfl) (by kernel_rfl) rfl (fun Q' hK => ?_)
      refine NB.wpList_store_agg_any rfl 55 (.tmp 7) (.tmp 88) rfl rfl (w.heap.size + 3) 0 #[Value.int .i64 (S.frm : Int), .int .i64 (S.n : Int), .int .u64 (S.epoch : Int), .slice a9 (S.l.length + 1) c9, .int .i64 ((S.used : Int) + (N : Int)), .int .i64 (S.sure : Int), .int .i64 (S.gone : Int), .int .i64 0] rfl rfl 55 #[Value.int .i64 0, .int .i64 0, .int .u64 0, .slice none 0 0, .int .i64 0, .int .i64 0, .int .i64 0, .int .i64 0] U8.p7 (by kernel_rfl) (Nat.le_refl _) (by intro v hv; simp only [List.mem_cons, List.not_mem_nil, or_false] at hv; rcases hv with rfl | rfl | rfl | rfl | rfl | rfl | rfl | rfl <;> rfl) _ rfl ?_
      intro w7 hg7 hc7 hs7
      have K7 := (NB.Kp.refl (fun k => k = w.heap.size + 3) w8).grown hg7 (fun k e => .inl (by cases e; rfl))
      have U7 := U8.outS K7 hc7
      have r1 := K7.rd HR1.out (fun x o e hn hk => by have := HX1.out x o e hn; omega)
      have r2 := K7.rd HR2.out (fun x o e hn hk => by have := HX2.out x o e hn; omega)
      have HR1 := Go.Lib.hid r1; have HR2 := Go.Lib.hid r2
      clear r1 r2
      have r3 := K7.rd HR3.out (fun x o e hn hk => by have := HX3.out x o e hn; omega)
      have HR3 := Go.Lib.hid r3
      clear r3
      have hA := And.intro U7.p3 U7.p4
      refine hK _ _ ⟨hA, ?_⟩
      clear hK Q' U8 hg7 hc7 hs7 K7 hA hst
      refine NB.s_p 8 rfl (by kernel_rfl) (fun K hK => ?_); go_simp; refine hK _ ?_; clear hK K
      refine NB.s_p 9 rfl (by kernel_rfl) (fun K hK => ?_); go_simp; refine hK _ ?_; clear hK K
      refine NB.s_end (by kernel_rfl) ?_
      have HU := Go.Lib.hid U7
      clear U7
      go_wp2_with fail
      have U7 := HU.out
      have p6 := U7.p6; have p7 := U7.p7
      have x0 := p6.cell 0 _ rfl
      have x1 := p6.cell 1 _ rfl
      have x2 := p6.cell 2 _ rfl
      have x3 := p6.cell 3 _ rfl
      have y0 := p7.cell 0 _ rfl
      have y1 := p7.cell 1 _ rfl
      have y2 := p7.cell 2 _ rfl
      have y3 := p7.cell 3 _ rfl
      have y4 := p7.cell 4 _ rfl
      have y5 := p7.cell 5 _ rfl
      have y6 := p7.cell 6 _ rfl
      have y7 := p7.cell 7 _ rfl
      have hlt6 := p6.lt
      have hlt7 := p7.lt
      refine bodyPost_ret (v := .tuple #[.agg #[Value.slice b1 E.l.length d1, .slice b2 E.waits.length d2, .int .i64 E.left, .bool E.down], .agg #[Value.int .i64 (S.frm : Int), .int .i64 (S.n : Int), .int .u64 (S.epoch : Int), .slice a9 (S.l.length + 1) c9, .int .i64 ((S.used : Int) + (N : Int)), .int .i64 (S.sure : Int), .int .i64 (S.gone : Int), .int .i64 0], .int .i64 (S.l.length : Int), .int .i64 0]) (by simp [results, Try.results25, go_sem, x0, x1, x2, x3, y0, y1, y2, y3, y4, y5, y6, y7, hlt6, hlt7, IntWalk.i64_in (S.l.length : Int) (by omega)]) rfl ?_
      have hbel := U7.bel
      have hap := rapp_goods h he HNN.out (by omega) HQ.out.symm rfl
      rw [hap]
      exact ⟨rdV b1 E.l.length d1 b2 E.waits.length d2 E.left E.down, .agg (sgL { S with l := S.l ++ [b], used := S.used + N } a9 c9).toArray, by simp [sgL, rdV, he], ⟨b1, d1, b2, d2, rfl, HR1.out, HR2.out⟩, ⟨a9, c9, rfl, by simpa using HR3.out⟩, hbel, fun k hk => (HLOC.out k hk).imp id (fun h => by omega), fun k hk => .inr (by obtain ⟨o, e, hn⟩ := locS_row hk; have := HX3.out k o e (by simp [strsL]); omega)⟩
    have hii : (i : Int) < (N : Int) := by omega
    have hin : decide (i < N) = true := decide_eq_true hiN
    obtain ⟨n', hn'⟩ : ∃ n', N - i = n' + 1 := ⟨N - i - 1, by omega⟩
    have hwr := HWR.out
    rw [hn', wrM] at hwr
    have hpart := fun w => rpart_any w b i (by omega) (HNI.out i hiN)
    have hblk := fun w => rblk_any w S.epoch S.l.length i N (piece b i) hep (by omega) (by omega) (by omega) (piece_le b i)
    have hadd : ((S.frm + S.used + i : Nat) : Int) = (S.frm : Int) + (S.used : Int) + (i : Int) := by omega
    have hwa := fun w v h => rwriteR w v E ((S.frm : Int) + (S.used : Int) + (i : Int)) (blkL S.epoch (S.l.length + 1) i N (piece b i)) h hE1 hE2 (by omega) (by rw [blkL_len _ _ _ _ _ (piece_le b i)]; omega)
    have hbd := write_bd E ((S.frm : Int) + (S.used : Int) + (i : Int)) (blkL S.epoch (S.l.length + 1) i N (piece b i)) hE1 hE2
    rw [hadd] at hwr
    obtain ⟨R, hR⟩ : ∃ R, E.write ((S.frm : Int) + (S.used : Int) + (i : Int)) (blkL S.epoch (S.l.length + 1) i N (piece b i)) = R := ⟨_, rfl⟩
    rw [hR] at hwr hwa hbd
    obtain ⟨G, er⟩ := R
    simp only at hwr hwa hbd
    obtain ⟨hG1, hG2, hGw⟩ := hbd
    have HPT := Go.Lib.hid hpart; have HBK := Go.Lib.hid hblk; have HWA := Go.Lib.hid hwa; have HWR2 := Go.Lib.hid hwr
    clear hpart hblk hwa hwr HWR hadd
    obtain ⟨BK, hBK⟩ : ∃ BK, blkL S.epoch (S.l.length + 1) i N (piece b i) = BK := ⟨_, rfl⟩
    obtain ⟨PT, hPT⟩ : ∃ PT, piece b i = PT := ⟨_, rfl⟩
    rw [hPT] at HPT HBK hBK
    rw [hPT, hBK] at HWA
    rw [hBK] at HBK
    unfold strL at HWA
    have wx1 : IntKind.i64.wrap ((S.frm : Int) + (S.used : Int)) = (S.frm : Int) + (S.used : Int) := IntWalk.i64_in _ (by omega)
    have wx2 : IntKind.i64.wrap ((S.frm : Int) + (S.used : Int) + (i : Int)) = (S.frm : Int) + (S.used : Int) + (i : Int) := IntWalk.i64_in _ (by omega)
    clear hR hBK hPT
    go_wp2_with fail
    refine NB.wp_region_t [23] (by kernel_rfl) ?_
    have U5 := U.below (dB' _)
    have r1 := Rd.below HR1.out (dB' _)
    have r2 := Rd.below HR2.out (dB' _)
    have HR1 := Go.Lib.hid r1; have HR2 := Go.Lib.hid r2
    clear U r1 r2
    generalize World.drew _ = w5 at *
    refine NB.t_r 0 [19, 20, 21, 22, 23, 24] rfl (by kernel_rfl) (by kernel_rfl) (by go_simp) _ (fun w' hw' => NB.run_op_load_agg (off := 0) (m := 4) rfl rfl Try.underlying50 rfl _ _ _ U5.p3 (by kernel_rfl) (Nat.le_refl _) _ rfl hw') (fun K hK => ?_); go_simp; refine hK _ ?_; clear hK K
    refine NB.t_p 1 rfl (by kernel_rfl) (fun K hK => ?_); go_simp; refine hK _ ?_; clear hK K
    refine NB.t_r 2 [5, 7, 19, 20, 21, 22, 23, 24] rfl (by kernel_rfl) (by kernel_rfl) (by go_simp) _ (fun w' hw' => NB.run_op_load rfl rfl Try.underlying3 rfl (U5.p4.cell 0 _ rfl) hw') (fun K hK => ?_); go_simp; refine hK _ ?_; clear hK K
    refine NB.t_p 3 rfl (by kernel_rfl) (fun K hK => ?_); go_simp; refine hK _ ?_; clear hK K
    refine NB.t_r 4 [5, 7, 19, 20, 21, 22, 23, 24] rfl (by kernel_rfl) (by kernel_rfl) (by go_simp) _ (fun w' hw' => NB.run_op_load rfl rfl Try.underlying3 rfl (U5.p4.cell 4 _ rfl) hw') (fun K hK => ?_); go_simp; refine hK _ ?_; clear hK K
    refine NB.t_p 5 rfl (by kernel_rfl) (fun K hK => ?_); go_simp; refine hK _ ?_; clear hK K
    refine NB.t_p 6 rfl (by kernel_rfl) (fun K hK => ?_); go_simp; refine hK _ ?_; clear hK K
    refine NB.t_p 7 rfl (by kernel_rfl) (fun K hK => ?_); go_simp; refine hK _ ?_; clear hK K
    refine NB.t_p 8 rfl (by kernel_rfl) (fun K hK => ?_); go_simp; refine hK _ ?_; clear hK K
    refine NB.t_r 9 [18, 19, 20, 21, 22, 23, 24] rfl (by kernel_rfl) (by kernel_rfl) (by go_simp) _ (fun w' hw' => NB.run_op_load rfl rfl Try.underlying53 rfl (U5.p4.cell 2 _ rfl) hw') (fun K hK => ?_); go_simp; refine hK _ ?_; clear hK K
    refine NB.t_p 10 rfl (by kernel_rfl) (fun K hK => ?_); go_simp; refine hK _ ?_; clear hK K
    refine NB.t_r 11 [12, 18, 19, 20, 21, 22, 23, 24] rfl (by kernel_rfl) (by kernel_rfl) (by go_simp) _ (fun w' hw' => NB.run_op_load rfl rfl Try.underlying32 rfl (U5.p4.cell 3 _ rfl) hw') (fun K hK => ?_); go_simp; refine hK _ ?_; clear hK K
    refine NB.t_p 12 rfl (by kernel_rfl) (fun K hK => ?_); go_simp; refine hK _ ?_; clear hK K
    refine NB.t_p 13 rfl (by kernel_rfl) (fun K hK => ?_); go_simp; refine hK _ ?_; clear hK K
    refine NB.t_p 14 rfl (by kernel_rfl) (fun K hK => ?_); go_simp; refine hK _ ?_; clear hK K
    refine NB.t_p 15 rfl (by kernel_rfl) (fun K hK => ?_); go_simp; refine hK _ ?_; clear hK K
    refine NB.t_p 16 rfl (by kernel_rfl) (fun K hK => ?_); go_simp; refine hK _ ?_; clear hK K
    refine NB.t_e 17 rfl (by kernel_rfl) (by kernel_rfl) (fun K hK => ?_); unfold NB.tmoves; go_simp; refine (HPT.out _).mono ?_; rintro e wX ⟨rfl, eX⟩; subst wX; refine ⟨_, rfl, Below.refl _ _, hK _ _ ?_⟩; clear hK K
    refine NB.t_e 18 rfl (by kernel_rfl) (by kernel_rfl) (fun K hK => ?_); unfold NB.tmoves; go_simp; refine (HBK.out _).mono ?_; rintro e w6 ⟨rfl, hb6⟩; refine ⟨_, rfl, hb6, hK _ _ ?_⟩; clear hK K
    have U6 := U5.below hb6
    have r1 := Rd.below HR1.out hb6
    have r2 := Rd.below HR2.out hb6
    have HR1 := Go.Lib.hid r1; have HR2 := Go.Lib.hid r2
    clear U5 r1 r2 hb6
    refine NB.t_e 19 rfl (by kernel_rfl) (by kernel_rfl) (fun K hK => ?_); unfold NB.tmoves; go_simp; refine (HWA.out _ (.agg #[Value.slice b1 E.l.length d1, .slice b2 E.waits.length d2, .int .i64 E.left, .bool E.down]) ⟨b1, d1, b2, d2, rfl, HR1.out, HR2.out⟩).mono ?_; rintro e w7 ⟨v7, rfl, hv7, hb7, hloc7⟩; refine ⟨_, rfl, hb7, hK _ _ ?_⟩; clear hK K
    obtain ⟨e1, g1, e2, g2, rfl, r1, r2⟩ := hv7
    unfold rdV
    have U7 := U6.below hb7
    have hloc9 : ∀ k, locR (rdV e1 G.l.length g1 e2 G.waits.length g2 G.left G.down) k → locR (rdV a1 D.l.length c1 a2 D.waits.length c2 D.left D.down) k ∨ w.heap.size + 4 ≤ k := fun k hk => by
      rcases hloc7 k hk with h | h
      · exact HLOC.out k h
      · exact .inr (by have := U6.p7.lt; omega)
    have hapart : ∀ k, locR (rdV e1 G.l.length g1 e2 G.waits.length g2 G.left G.down) k → k ≠ w.heap.size ∧ k ≠ w.heap.size + 1 ∧ k ≠ w.heap.size + 2 ∧ k ≠ w.heap.size + 3 := fun k hk => by
      rcases hloc9 k hk with h | h
      · have := HLOC0.out k h; omega
      · omega
    have hx1 : ∀ b o, e1 = some ⟨b, o, none⟩ → strsL G.l ≠ [] → b ≠ w.heap.size ∧ b ≠ w.heap.size + 1 ∧ b ≠ w.heap.size + 2 ∧ b ≠ w.heap.size + 3 := fun b o e hn => hapart b (loc_1 b o e (by cases hq : G.l with | nil => rw [hq] at hn; exact absurd rfl hn | cons _ _ => simp))
    have hx2 : ∀ b o, e2 = some ⟨b, o, none⟩ → wsL G.waits ≠ [] → b ≠ w.heap.size ∧ b ≠ w.heap.size + 1 ∧ b ≠ w.heap.size + 2 ∧ b ≠ w.heap.size + 3 := fun b o e hn => hapart b (loc_2 b o e (by cases hq : G.waits with | nil => rw [hq] at hn; exact absurd rfl hn | cons _ _ => simp))
    have HLOC := Go.Lib.hid hloc9; have HX1 := Go.Lib.hid hx1; have HX2 := Go.Lib.hid hx2
    clear U6 hb7 HR1 HR2 hloc7 hloc9 hapart hx1 hx2
    refine NB.t_p 20 rfl (by kernel_rfl) (fun K hK => ?_); go_simp; refine hK _ ?_; clear hK K
    refine NB.t_p 21 rfl (by kernel_rfl) (fun K hK => ?_); go_simp; refine hK _ ?_; clear hK K
    refine NB.t_p 22 rfl (by kernel_rfl) (fun K hK => ?_); go_simp; refine hK _ ?_; clear hK K
    refine NB.t_w 23 rfl (by kernel_rfl) (by kernel_rfl) rfl (fun Q' hK => ?_)
    refine NB.wpList_store_agg_any rfl 50 (.tmp 3) (.tmp 64) rfl rfl w.heap.size 0 #[Value.slice e1 G.l.length g1, .slice e2 G.waits.length g2, .int .i64 G.left, .bool G.down] rfl rfl 50 #[Value.slice b1 E.l.length d1, .slice b2 E.waits.length d2, .int .i64 E.left, .bool E.down] U7.p3 (by kernel_rfl) (Nat.le_refl _) (by intro v hv; simp only [List.mem_cons, List.not_mem_nil, or_false] at hv; rcases hv with rfl | rfl | rfl | rfl <;> rfl) _ rfl ?_
    intro w8 hg8 hc8 hs8
    refine hK _ _ ?_
    clear hK Q'
    have K8 := (NB.Kp.refl (fun k => k = w.heap.size) w7).grown hg8 (fun k e => .inl (by cases e; rfl))
    have U8 := U7.inD K8 hc8
    have r1' := K8.rd r1 (fun b o e hn hk => (HX1.out b o e hn).1 hk)
    have r2' := K8.rd r2 (fun b o e hn hk => (HX2.out b o e hn).1 hk)
    have HR1 := Go.Lib.hid r1'; have HR2 := Go.Lib.hid r2'
    clear U7 hg8 hc8 hs8 K8 r1 r2 r1' r2'
    refine NB.t_p 24 rfl (by kernel_rfl) (fun K hK => ?_); go_simp; refine hK _ ?_; clear hK K
    refine NB.t_end (by kernel_rfl) ?_
    by_cases her : er = 0
    case neg =>
      have heq : (er == (0 : Int)) = false := beq_eq_false_iff_ne.2 her
      have hq := HWR2.out
      rw [if_pos (by exact her)] at hq
      have HQ := Go.Lib.hid hq
      clear hq HWR2
      have p7 := U8.p4.cell 7 _ rfl
      have f7 := U8.p4.free 7
      have U9 := U8.setS 7 (.int .i64 er)
      simp only [List.set] at U9
      have K9 := (NB.Kp.refl (fun k => k = w.heap.size + 1) w8).setCell (x := ⟨w.heap.size + 1, 7, none⟩) (.inl rfl) (.int .i64 er)
      have r1 := K9.rd HR1.out (fun b o e hn hk => (HX1.out b o e hn).2.1 hk)
      have r2 := K9.rd HR2.out (fun b o e hn hk => (HX2.out b o e hn).2.1 hk)
      have HR1 := Go.Lib.hid r1; have HR2 := Go.Lib.hid r2; have HU := Go.Lib.hid U9
      clear U8 U9 K9 r1 r2
      go_wp2_with fail
      clear p7 f7
      generalize w8.setCell ⟨w.heap.size + 1, 7, none⟩ (.int .i64 er) = w8 at *
      refine NB.wp_region_s [3, 4] (fun w' => Rw w' w.heap.size [Value.slice e1 G.l.length g1, .slice e2 G.waits.length g2, .int .i64 G.left, .bool G.down] 50 ∧ Rw w' (w.heap.size + 1) [Value.int .i64 (S.frm : Int), .int .i64 (S.n : Int), .int .u64 (S.epoch : Int), .slice aL S.l.length cL, .int .i64 (S.used : Int), .int .i64 (S.sure : Int), .int .i64 (S.gone : Int), .int .i64 er] 55) (by kernel_rfl) ?_
      have U9 := HU.out.below (dB' _)
      clear HU
      have r1 := Rd.below HR1.out (dB' _)
      have r2 := Rd.below HR2.out (dB' _)
      have HR1 := Go.Lib.hid r1; have HR2 := Go.Lib.hid r2
      clear r1 r2
      have hst : ∀ x y : World, (Rw x w.heap.size [Value.slice e1 G.l.length g1, .slice e2 G.waits.length g2, .int .i64 G.left, .bool G.down] 50 ∧ Rw x (w.heap.size + 1) [Value.int .i64 (S.frm : Int), .int .i64 (S.n : Int), .int .u64 (S.epoch : Int), .slice aL S.l.length cL, .int .i64 (S.used : Int), .int .i64 (S.sure : Int), .int .i64 (S.gone : Int), .int .i64 er] 55) → Below x.heap.size x y → (Rw y w.heap.size [Value.slice e1 G.l.length g1, .slice e2 G.waits.length g2, .int .i64 G.left, .bool G.down] 50 ∧ Rw y (w.heap.size + 1) [Value.int .i64 (S.frm : Int), .int .i64 (S.n : Int), .int .u64 (S.epoch : Int), .slice aL S.l.length cL, .int .i64 (S.used : Int), .int .i64 (S.sure : Int), .int .i64 (S.gone : Int), .int .i64 er] 55) := fun x y h hb => ⟨h.1.below hb, h.2.below hb⟩
      generalize World.drew _ = w9 at *
      have hA := And.intro U9.p3 U9.p4
      refine NB.s_a 0 rfl (by kernel_rfl) (by go_simp) _ hA hst (fun w' h => NB.run_op_load_agg (off := 0) (m := 4) rfl rfl Try.underlying50 rfl _ _ _ h.1 (by kernel_rfl) (Nat.le_refl _) _ rfl (Below.refl _ _)) (fun K hK => ?_); go_simp; refine hK _ ?_; clear hK K
      refine NB.s_a 1 rfl (by kernel_rfl) (by go_simp) _ hA hst (fun w' h => NB.run_op_load_agg (off := 0) (m := 8) rfl rfl Try.underlying55 rfl _ _ _ h.2 (by kernel_rfl) (Nat.le_refl _) _ rfl (Below.refl _ _)) (fun K hK => ?_); go_simp; refine hK _ ?_; clear hK K
      refine NB.s_p 2 rfl (by kernel_rfl) (fun K hK => ?_); go_simp; refine hK _ ?_; clear hK K
      refine NB.s_w 3 rfl (by kernel_rfl) (by kernel_rfl) rfl (fun Q' hK => ?_)
      refine NB.wpList_store_agg_any rfl 50 (.tmp 6) (.tmp 70) rfl rfl (w.heap.size + 2) 0 #[Value.slice e1 G.l.length g1, .slice e2 G.waits.length g2, .int .i64 G.left, .bool G.down] rfl rfl 50 #[Value.slice none 0 0, .slice none 0 0, .int .i64 0, .bool false] U9.p6 (by kernel_rfl) (Nat.le_refl _) (by intro v hv; simp only [List.mem_cons, List.not_mem_nil, or_false] at hv; rcases hv with rfl | rfl | rfl | rfl <;> rfl) _ rfl ?_
      intro w8 hg8 hc8 hs8
      have K8 := (NB.Kp.refl (fun k => k = w.heap.size + 2) w9).grown hg8 (fun k e => .inl (by cases e; rfl))
      have U8 := U9.outD K8 hc8
      have r1 := K8.rd HR1.out (fun x o e hn hk => by have := HX1.out x o e hn; omega)
      have r2 := K8.rd HR2.out (fun x o e hn hk => by have := HX2.out x o e hn; omega)
      have HR1 := Go.Lib.hid r1; have HR2 := Go.Lib.hid r2
      clear r1 r2
      have hA := And.intro U8.p3 U8.p4
      refine hK _ _ ⟨hA, ?_⟩
      clear hK Q' U9 hg8 hc8 hs8 K8
      refine NB.s_w 4 rfl (by kernel_rfl) (by kernel_rfl) rfl (fun Q' hK => ?_)
      refine NB.wpList_store_agg_any rfl 55 (.tmp 7) (.tmp 71) rfl rfl (w.heap.size + 3) 0 #[Value.int .i64 (S.frm : Int), .int .i64 (S.n : Int), .int .u64 (S.epoch : Int), .slice aL S.l.length cL, .int .i64 (S.used : Int), .int .i64 (S.sure : Int), .int .i64 (S.gone : Int), .int .i64 er] rfl rfl 55 #[Value.int .i64 0, .int .i64 0, .int .u64 0, .slice none 0 0, .int .i64 0, .int .i64 0, .int .i64 0, .int .i64 0] U8.p7 (by kernel_rfl) (Nat.le_refl _) (by intro v hv; simp only [List.mem_cons, List.not_mem_nil, or_false] at hv; rcases hv with rfl | rfl | rfl | rfl | rfl | rfl | rfl | rfl <;> rfl) _ rfl ?_
      intro w7 hg7 hc7 hs7
      have K7 := (NB.Kp.refl (fun k => k = w.heap.size + 3) w8).grown hg7 (fun k e => .inl (by cases e; rfl))
      have U7 := U8.outS K7 hc7
      have r1 := K7.rd HR1.out (fun x o e hn hk => by have := HX1.out x o e hn; omega)
      have r2 := K7.rd HR2.out (fun x o e hn hk => by have := HX2.out x o e hn; omega)
      have HR1 := Go.Lib.hid r1; have HR2 := Go.Lib.hid r2
      clear r1 r2
      have hA := And.intro U7.p3 U7.p4
      refine hK _ _ ⟨hA, ?_⟩
      clear hK Q' U8 hg7 hc7 hs7 K7 hA hst
      refine NB.s_p 5 rfl (by kernel_rfl) (fun K hK => ?_); go_simp; refine hK _ ?_; clear hK K
      refine NB.s_p 6 rfl (by kernel_rfl) (fun K hK => ?_); go_simp; refine hK _ ?_; clear hK K
      refine NB.s_end (by kernel_rfl) ?_
      have HU := Go.Lib.hid U7
      clear U7
      go_wp2_with fail
      have U7 := HU.out
      have p6 := U7.p6; have p7 := U7.p7
      have x0 := p6.cell 0 _ rfl
      have x1 := p6.cell 1 _ rfl
      have x2 := p6.cell 2 _ rfl
      have x3 := p6.cell 3 _ rfl
      have y0 := p7.cell 0 _ rfl
      have y1 := p7.cell 1 _ rfl
      have y2 := p7.cell 2 _ rfl
      have y3 := p7.cell 3 _ rfl
      have y4 := p7.cell 4 _ rfl
      have y5 := p7.cell 5 _ rfl
      have y6 := p7.cell 6 _ rfl
      have y7 := p7.cell 7 _ rfl
      have hlt6 := p6.lt
      have hlt7 := p7.lt
      refine bodyPost_ret (v := .tuple #[.agg #[Value.slice e1 G.l.length g1, .slice e2 G.waits.length g2, .int .i64 G.left, .bool G.down], .agg #[Value.int .i64 (S.frm : Int), .int .i64 (S.n : Int), .int .u64 (S.epoch : Int), .slice aL S.l.length cL, .int .i64 (S.used : Int), .int .i64 (S.sure : Int), .int .i64 (S.gone : Int), .int .i64 er], .int .i64 0, .int .i64 er]) (by simp [results, Try.results25, go_sem, x0, x1, x2, x3, y0, y1, y2, y3, y4, y5, y6, y7, hlt6, hlt7]) rfl ?_
      have hbel := U7.bel
      have hap := rapp_fails h he HNN.out (by omega) HQ.out.symm her
      rw [hap]
      exact ⟨rdV e1 G.l.length g1 e2 G.waits.length g2 G.left G.down, .agg (sgL { S with e := er } aL cL).toArray, rfl, ⟨e1, g1, e2, g2, rfl, HR1.out, HR2.out⟩, ⟨aL, cL, rfl, Rd.below HS.out hbel⟩, hbel, fun k hk => (HLOC.out k hk).imp id (fun h => by omega), fun k hk => .inl (by obtain ⟨o, e, hn⟩ := locS_row hk; exact ⟨S, aL, cL, o, rfl, e, hn⟩)⟩
    subst her
    have hq := HWR2.out
    rw [if_neg (by exact fun h => h rfl)] at hq
    have HQ := Go.Lib.hid hq
    have hnn : N - (i + 1) = n' := by omega
    clear hq HWR2
    go_wp2_with fail
    refine ⟨⟨i + 1, G, e1, e2, g1, g2, by simp, by omega, U8, HR1.out, HR2.out, HLOC.out, by rw [hnn]; exact HQ.out, hG1, hG2, by omega⟩, by simp [intOf]; omega⟩
end Go.Proofs.Ytmgkaoenjnnlmaa
namespace Go.Proofs.Ytmgkaoenjnnlmaa
open Go.RowKit
open Go.NB.Crc
open Go.NB (Rd Dk Kp val)

theorem rapp_any (w : World) (v0 s0 : Value) (D : Dk) (S : Sg) (b : List UInt8) (h : RefD w v0 D) (hs : RefS w s0 S)
    (hl : -1 ≤ D.left) (hl2 : D.left ≤ 9223372036854775807) (hw : D.waits.length ≤ 90000) (hfr : S.frm ≤ 1000000) (hn : S.n ≤ 1000000) (hu : S.used ≤ 1000000) (hep : S.epoch < 4294967296) (hsl : S.l.length ≤ 60000) (hb : b.length ≤ 100000) :
    Calls Try.prog 25 #[v0, s0, .string ⟨b.toArray⟩] w (AppR w v0 s0 (appM D S b)) := by
  obtain ⟨a1, c1, a2, c2, rfl, h1, h2⟩ := h
  obtain ⟨aL, cL, rfl, h3⟩ := hs
  have same : ∀ (x : Int) e w', appM D S b = (D, S, 0, x) → e = .returned (.tuple #[rdV a1 D.l.length c1 a2 D.waits.length c2 D.left D.down, .agg (sgL S aL cL).toArray, .int .i64 0, .int .i64 x]) ∧ Below w.heap.size w w' → AppR w (rdV a1 D.l.length c1 a2 D.waits.length c2 D.left D.down) (.agg (sgL S aL cL).toArray) (appM D S b) e w' := fun x e w' hq ⟨he, hb⟩ => by
    rw [hq]
    exact ⟨_, _, he, ⟨a1, c1, a2, c2, rfl, Rd.below h1 hb, Rd.below h2 hb⟩, ⟨aL, cL, rfl, Rd.below h3 hb⟩, hb, fun k hk => .inl hk, fun k hk => .inl hk⟩
  by_cases g1 : 4096 < b.length
  · exact (rapp_big w a1 a2 aL D.l.length c1 D.waits.length c2 S.l.length cL D.left D.down S.frm S.n S.epoch S.used S.sure S.gone S.e b hb g1).mono (fun e w' h => same 13 e w' (by unfold appM; rw [if_pos g1]) h)
  by_cases g2 : S.e = 0
  case neg => exact (rapp_err w a1 a2 aL D.l.length c1 D.waits.length c2 S.l.length cL D.left D.down S.frm S.n S.epoch S.used S.sure S.gone S.e b hb g1 g2).mono (fun e w' h => same S.e e w' (by unfold appM; rw [if_neg g1, if_pos g2]) h)
  have hsv : sgL S aL cL = [Value.int .i64 (S.frm : Int), .int .i64 (S.n : Int), .int .u64 (S.epoch : Int), .slice aL S.l.length cL, .int .i64 (S.used : Int), .int .i64 (S.sure : Int), .int .i64 (S.gone : Int), .int .i64 0] := by unfold sgL; rw [g2]
  by_cases g3 : (S.n : Int) - S.used < needM b.length
  · have this := rapp_full w a1 a2 aL D.l.length c1 D.waits.length c2 S.l.length cL D.left D.down S.frm S.n S.epoch S.used S.sure S.gone 0 b hb g1 g3 hn hu
    rw [← hsv] at this
    exact this.mono (fun e w' h => same 21 e w' (by unfold appM; rw [if_neg g1, if_neg (fun h => h g2), if_pos g3]) h)
  · have := rapp_go w D S a1 a2 aL c1 c2 cL b h1 h2 h3 hl hl2 hw hfr hn hu hep hsl g1 g2 g3
    rw [hsv] at *
    exact this

/-- What syncing tells. -/
def SynR (w : World) (v0 s0 : Value) (r : Dk × Sg × Int) (e : Ending) (w' : World) : Prop :=
  ∃ v s, e = .returned (.tuple #[v, s, .int .i64 r.2.2]) ∧ RefD w' v r.1 ∧ RefS w' s r.2.1 ∧ Below w.heap.size w w' ∧ (∀ k, locR v k → locR v0 k ∨ w.heap.size ≤ k) ∧ (∀ k, locS s k → locS s0 k ∨ w.heap.size ≤ k)

set_option maxRecDepth 100000 in
set_option maxHeartbeats 16000000 in
theorem rsyn_err (w : World) (a1 a2 aL : Option Addr) (n1 c1 n2 c2 lL cL : Nat) (left : Int) (down : Bool) (frm n ep used sure gone : Nat) (er : Int) (he : er ≠ 0) :
    Calls Try.prog 26 #[.agg #[Value.slice a1 n1 c1, .slice a2 n2 c2, .int .i64 left, .bool down], .agg #[Value.int .i64 (frm : Int), .int .i64 (n : Int), .int .u64 (ep : Int), .slice aL lL cL, .int .i64 (used : Int), .int .i64 (sure : Int), .int .i64 (gone : Int), .int .i64 er]] w fun e w' => e = .returned (.tuple #[.agg #[Value.slice a1 n1 c1, .slice a2 n2 c2, .int .i64 left, .bool down], .agg #[Value.int .i64 (frm : Int), .int .i64 (n : Int), .int .u64 (ep : Int), .slice aL lL cL, .int .i64 (used : Int), .int .i64 (sure : Int), .int .i64 (gone : Int), .int .i64 er], .int .i64 er]) ∧ Below w.heap.size w w' := by
  have U0 := UA.start w (.slice a1 n1 c1) (.slice a2 n2 c2) (.int .i64 left) (.bool down) (.int .i64 (frm : Int)) (.int .i64 (n : Int)) (.int .u64 (ep : Int)) (.slice aL lL cL) (.int .i64 (used : Int)) (.int .i64 (sure : Int)) (.int .i64 (gone : Int)) (.int .i64 er)
  have HU0 := Go.Lib.hid U0
  have hdn : (er == (0 : Int)) = false := beq_eq_false_iff_ne.2 he
  have p7 := U0.p4.cell 7 _ rfl
  clear U0
  go_enter Try.func26, Try.ntmps26
  go_wp2_with fail
  clear p7
  generalize ((((w.alloc (.cells #[Value.slice a1 n1 c1, .slice a2 n2 c2, .int .i64 left, .bool down] 50)).alloc (.cells #[Value.int .i64 (frm : Int), .int .i64 (n : Int), .int .u64 (ep : Int), .slice aL lL cL, .int .i64 (used : Int), .int .i64 (sure : Int), .int .i64 (gone : Int), .int .i64 er] 55)).alloc (.cells #[Value.slice none 0 0, .slice none 0 0, .int .i64 0, .bool false] 50)).alloc (.cells #[Value.int .i64 0, .int .i64 0, .int .u64 0, .slice none 0 0, .int .i64 0, .int .i64 0, .int .i64 0, .int .i64 0] 55)) = w4 at *
  rw [show w.heap.size + 1 + 1 = w.heap.size + 2 from rfl, show w.heap.size + 2 + 1 = w.heap.size + 3 from rfl]
  have HU := HU0
  clear HU0
  refine NB.wp_region_s [4, 5] (fun w' => Rw w' w.heap.size [Value.slice a1 n1 c1, .slice a2 n2 c2, .int .i64 left, .bool down] 50 ∧ Rw w' (w.heap.size + 1) [Value.int .i64 (frm : Int), .int .i64 (n : Int), .int .u64 (ep : Int), .slice aL lL cL, .int .i64 (used : Int), .int .i64 (sure : Int), .int .i64 (gone : Int), .int .i64 er] 55) (by kernel_rfl) ?_
  have U9 := HU.out.below (dB' _)
  clear HU
  have hst : ∀ x y : World, (Rw x w.heap.size [Value.slice a1 n1 c1, .slice a2 n2 c2, .int .i64 left, .bool down] 50 ∧ Rw x (w.heap.size + 1) [Value.int .i64 (frm : Int), .int .i64 (n : Int), .int .u64 (ep : Int), .slice aL lL cL, .int .i64 (used : Int), .int .i64 (sure : Int), .int .i64 (gone : Int), .int .i64 er] 55) → Below x.heap.size x y → (Rw y w.heap.size [Value.slice a1 n1 c1, .slice a2 n2 c2, .int .i64 left, .bool down] 50 ∧ Rw y (w.heap.size + 1) [Value.int .i64 (frm : Int), .int .i64 (n : Int), .int .u64 (ep : Int), .slice aL lL cL, .int .i64 (used : Int), .int .i64 (sure : Int), .int .i64 (gone : Int), .int .i64 er] 55) := fun x y h hb => ⟨h.1.below hb, h.2.below hb⟩
  generalize World.drew _ = w9 at *
  have hA := And.intro U9.p3 U9.p4
  refine NB.s_a 0 rfl (by kernel_rfl) (by go_simp) _ hA hst (fun w' h => NB.run_op_load_agg (off := 0) (m := 4) rfl rfl Try.underlying50 rfl _ _ _ h.1 (by kernel_rfl) (Nat.le_refl _) _ rfl (Below.refl _ _)) (fun K hK => ?_); go_simp; refine hK _ ?_; clear hK K
  refine NB.s_a 1 rfl (by kernel_rfl) (by go_simp) _ hA hst (fun w' h => NB.run_op_load_agg (off := 0) (m := 8) rfl rfl Try.underlying55 rfl _ _ _ h.2 (by kernel_rfl) (Nat.le_refl _) _ rfl (Below.refl _ _)) (fun K hK => ?_); go_simp; refine hK _ ?_; clear hK K
  refine NB.s_p 2 rfl (by kernel_rfl) (fun K hK => ?_); go_simp; refine hK _ ?_; clear hK K
  refine NB.s_a 3 rfl (by kernel_rfl) (by go_simp) _ hA hst (fun w' h => NB.run_op_load rfl rfl Try.underlying26 rfl (h.2.cell 7 _ rfl) (Below.refl _ _)) (fun K hK => ?_); go_simp; refine hK _ ?_; clear hK K
  refine NB.s_w 4 rfl (by kernel_rfl) (by kernel_rfl) rfl (fun Q' hK => ?_)
  refine NB.wpList_store_agg_any rfl 50 (.tmp 4) (.tmp 11) rfl rfl (w.heap.size + 2) 0 #[Value.slice a1 n1 c1, .slice a2 n2 c2, .int .i64 left, .bool down] rfl rfl 50 #[Value.slice none 0 0, .slice none 0 0, .int .i64 0, .bool false] U9.p6 (by kernel_rfl) (Nat.le_refl _) (by intro v hv; simp only [List.mem_cons, List.not_mem_nil, or_false] at hv; rcases hv with rfl | rfl | rfl | rfl <;> rfl) _ rfl ?_
  intro w8 hg8 hc8 hs8
  have K8 := (NB.Kp.refl (fun k => k = w.heap.size + 2) w9).grown hg8 (fun k e => .inl (by cases e; rfl))
  have U8 := U9.outD K8 hc8
  have hA := And.intro U8.p3 U8.p4
  refine hK _ _ ⟨hA, ?_⟩
  clear hK Q' U9 hg8 hc8 hs8 K8
  refine NB.s_w 5 rfl (by kernel_rfl) (by kernel_rfl) rfl (fun Q' hK => ?_)
  refine NB.wpList_store_agg_any rfl 55 (.tmp 5) (.tmp 12) rfl rfl (w.heap.size + 3) 0 #[Value.int .i64 (frm : Int), .int .i64 (n : Int), .int .u64 (ep : Int), .slice aL lL cL, .int .i64 (used : Int), .int .i64 (sure : Int), .int .i64 (gone : Int), .int .i64 er] rfl rfl 55 #[Value.int .i64 0, .int .i64 0, .int .u64 0, .slice none 0 0, .int .i64 0, .int .i64 0, .int .i64 0, .int .i64 0] U8.p7 (by kernel_rfl) (Nat.le_refl _) (by intro v hv; simp only [List.mem_cons, List.not_mem_nil, or_false] at hv; rcases hv with rfl | rfl | rfl | rfl | rfl | rfl | rfl | rfl <;> rfl) _ rfl ?_
  intro w7 hg7 hc7 hs7
  have K7 := (NB.Kp.refl (fun k => k = w.heap.size + 3) w8).grown hg7 (fun k e => .inl (by cases e; rfl))
  have U7 := U8.outS K7 hc7
  have hA := And.intro U7.p3 U7.p4
  refine hK _ _ ⟨hA, ?_⟩
  clear hK Q' U8 hg7 hc7 hs7 K7 hA hst
  refine NB.s_p 6 rfl (by kernel_rfl) (fun K hK => ?_); go_simp; refine hK _ ?_; clear hK K
  refine NB.s_end (by kernel_rfl) ?_
  have HU := Go.Lib.hid U7
  clear U7
  go_wp2_with fail
  have U7 := HU.out
  have p6 := U7.p6; have p7 := U7.p7
  have x0 := p6.cell 0 _ rfl
  have x1 := p6.cell 1 _ rfl
  have x2 := p6.cell 2 _ rfl
  have x3 := p6.cell 3 _ rfl
  have y0 := p7.cell 0 _ rfl
  have y1 := p7.cell 1 _ rfl
  have y2 := p7.cell 2 _ rfl
  have y3 := p7.cell 3 _ rfl
  have y4 := p7.cell 4 _ rfl
  have y5 := p7.cell 5 _ rfl
  have y6 := p7.cell 6 _ rfl
  have y7 := p7.cell 7 _ rfl
  have hlt6 := p6.lt
  have hlt7 := p7.lt
  refine bodyPost_ret (v := .tuple #[.agg #[Value.slice a1 n1 c1, .slice a2 n2 c2, .int .i64 left, .bool down], .agg #[Value.int .i64 (frm : Int), .int .i64 (n : Int), .int .u64 (ep : Int), .slice aL lL cL, .int .i64 (used : Int), .int .i64 (sure : Int), .int .i64 (gone : Int), .int .i64 er], .int .i64 er]) (by simp [results, Try.results26, go_sem, x0, x1, x2, x3, y0, y1, y2, y3, y4, y5, y6, y7, hlt6, hlt7]) rfl ?_
  exact ⟨rfl, U7.bel⟩

set_option maxRecDepth 100000 in
set_option maxHeartbeats 16000000 in
theorem rsyn_go (w : World) (D : Dk) (S : Sg) (a1 a2 aL : Option Addr) (c1 c2 cL : Nat) (h1 : Rd 1 w a1 D.l.length c1 (strsL D.l)) (h2 : Rd 2 w a2 D.waits.length c2 (wsL D.waits)) (hs : Rd 1 w aL S.l.length cL (strsL S.l))
    (hl : -1 ≤ D.left) (hl2 : D.left ≤ 9223372036854775807) (hln : D.l.length ≤ 65536) (hw : D.waits.length ≤ 100000) (hwi : ∀ x ∈ D.waits, x.1 < D.l.length) (hsl : S.l.length ≤ 60000) (he : S.e = 0) :
    Calls Try.prog 26 #[.agg #[Value.slice a1 D.l.length c1, .slice a2 D.waits.length c2, .int .i64 D.left, .bool D.down], .agg #[Value.int .i64 (S.frm : Int), .int .i64 (S.n : Int), .int .u64 (S.epoch : Int), .slice aL S.l.length cL, .int .i64 (S.used : Int), .int .i64 (S.sure : Int), .int .i64 (S.gone : Int), .int .i64 0]] w (SynR w (rdV a1 D.l.length c1 a2 D.waits.length c2 D.left D.down) (.agg (sgL S aL cL).toArray) (synM D S)) := by
  obtain ⟨R, hR⟩ : ∃ R, D.sync = R := ⟨_, rfl⟩
  have hq : synM D S = if R.2 ≠ 0 then (R.1, { S with e := R.2 }, R.2) else (R.1, { S with sure := S.l.length }, 0) := by
    subst hR; unfold synM; rw [if_neg (fun h => h he)]
  have hsy := fun w v h => rsync_any w v D h hl hl2 hln hw hwi
  rw [hR] at hsy
  obtain ⟨G, er⟩ := R
  simp only at hsy hq
  have HQ := Go.Lib.hid hq
  clear hR hq
  have HSY := Go.Lib.hid hsy; have HS := Go.Lib.hid hs
  have hlo1 : ∀ b o, a1 = some ⟨b, o, none⟩ → 0 < D.l.length → b < w.heap.size := fun b o e hn => rd_low h1 b o e (by intro e2; have := congrArg List.length e2; simp [strsL] at this; rw [this] at hn; simp at hn)
  have hlo2 : ∀ b o, a2 = some ⟨b, o, none⟩ → 0 < D.waits.length → b < w.heap.size := fun b o e hn => rd_low h2 b o e (by intro e2; have := congrArg List.length e2; rw [wsl_len] at this; simp at this; omega)
  have hloc0 : ∀ k, locR (rdV a1 D.l.length c1 a2 D.waits.length c2 D.left D.down) k → k < w.heap.size := fun k hk => by
    obtain ⟨b1, m1, e1, b2, m2, e2, l2, d2, o, e, h⟩ := hk
    simp only [rdV, Value.agg.injEq, Array.mk.injEq, List.cons.injEq, Value.slice.injEq] at e
    obtain ⟨⟨rfl, rfl, _⟩, ⟨rfl, rfl, _⟩, _⟩ := e
    exact h.elim (fun h => hlo1 k o h.1 h.2) (fun h => hlo2 k o h.1 h.2)
  have HLOC0 := Go.Lib.hid hloc0
  clear hsy hs hlo1 hlo2 hloc0
  have U0 := UA.start w (.slice a1 D.l.length c1) (.slice a2 D.waits.length c2) (.int .i64 D.left) (.bool D.down) (.int .i64 (S.frm : Int)) (.int .i64 (S.n : Int)) (.int .u64 (S.epoch : Int)) (.slice aL S.l.length cL) (.int .i64 (S.used : Int)) (.int .i64 (S.sure : Int)) (.int .i64 (S.gone : Int)) (.int .i64 0)
  have HU0 := Go.Lib.hid U0
  have rd1 := Rd.below h1 U0.bel
  have rd2 := Rd.below h2 U0.bel
  have HR1 := Go.Lib.hid rd1; have HR2 := Go.Lib.hid rd2
  have p7 := U0.p4.cell 7 _ rfl
  have x0 := U0.p3.cell 0 _ rfl
  have x1 := U0.p3.cell 1 _ rfl
  have x2 := U0.p3.cell 2 _ rfl
  have x3 := U0.p3.cell 3 _ rfl
  clear U0 h1 h2 rd1 rd2
  go_enter Try.func26, Try.ntmps26
  go_wp2_with fail
  clear p7 x0 x1 x2 x3
  refine (HSY.out _ (.agg #[Value.slice a1 D.l.length c1, .slice a2 D.waits.length c2, .int .i64 D.left, .bool D.down]) ⟨a1, c1, a2, c2, rfl, HR1.out, HR2.out⟩).mono ?_
  generalize ((((w.alloc (.cells #[Value.slice a1 D.l.length c1, .slice a2 D.waits.length c2, .int .i64 D.left, .bool D.down] 50)).alloc (.cells #[Value.int .i64 (S.frm : Int), .int .i64 (S.n : Int), .int .u64 (S.epoch : Int), .slice aL S.l.length cL, .int .i64 (S.used : Int), .int .i64 (S.sure : Int), .int .i64 (S.gone : Int), .int .i64 0] 55)).alloc (.cells #[Value.slice none 0 0, .slice none 0 0, .int .i64 0, .bool false] 50)).alloc (.cells #[Value.int .i64 0, .int .i64 0, .int .u64 0, .slice none 0 0, .int .i64 0, .int .i64 0, .int .i64 0, .int .i64 0] 55)) = w4 at *
  rw [show w.heap.size + 1 + 1 = w.heap.size + 2 from rfl, show w.heap.size + 2 + 1 = w.heap.size + 3 from rfl]
  have HU := HU0
  clear HU0
  rintro e w7 ⟨v7, rfl, hv7, hb7, hloc7⟩
  obtain ⟨e1, g1, e2, g2, rfl, r1, r2⟩ := hv7
  unfold rdV
  have U7 := HU.out.below hb7
  have hloc9 : ∀ k, locR (rdV e1 G.l.length g1 e2 G.waits.length g2 G.left G.down) k → locR (rdV a1 D.l.length c1 a2 D.waits.length c2 D.left D.down) k ∨ w.heap.size + 4 ≤ k := fun k hk => by
    rcases hloc7 k hk with h | h
    · exact .inl h
    · exact .inr (by have := HU.out.p7.lt; omega)
  have hapart : ∀ k, locR (rdV e1 G.l.length g1 e2 G.waits.length g2 G.left G.down) k → k ≠ w.heap.size ∧ k ≠ w.heap.size + 1 ∧ k ≠ w.heap.size + 2 ∧ k ≠ w.heap.size + 3 := fun k hk => by
    rcases hloc9 k hk with h | h
    · have := HLOC0.out k h; omega
    · omega
  have hx1 : ∀ b o, e1 = some ⟨b, o, none⟩ → strsL G.l ≠ [] → b ≠ w.heap.size ∧ b ≠ w.heap.size + 1 ∧ b ≠ w.heap.size + 2 ∧ b ≠ w.heap.size + 3 := fun b o e hn => hapart b (loc_1 b o e (by cases hq : G.l with | nil => rw [hq] at hn; exact absurd rfl hn | cons _ _ => simp))
  have hx2 : ∀ b o, e2 = some ⟨b, o, none⟩ → wsL G.waits ≠ [] → b ≠ w.heap.size ∧ b ≠ w.heap.size + 1 ∧ b ≠ w.heap.size + 2 ∧ b ≠ w.heap.size + 3 := fun b o e hn => hapart b (loc_2 b o e (by cases hq : G.waits with | nil => rw [hq] at hn; exact absurd rfl hn | cons _ _ => simp))
  have HLOC := Go.Lib.hid hloc9; have HX1 := Go.Lib.hid hx1; have HX2 := Go.Lib.hid hx2; have HU7 := Go.Lib.hid U7
  have HR1 := Go.Lib.hid r1; have HR2 := Go.Lib.hid r2
  clear HU hb7 hloc7 hloc9 hapart hx1 hx2 r1 r2 U7
  by_cases her : er = 0
  case neg =>
    have heq : (er == (0 : Int)) = false := beq_eq_false_iff_ne.2 her
    go_wp2_with (refine NB.wpList_store_agg_any rfl 50 (.tmp 2) (.tmp 18) rfl rfl w.heap.size 0 #[Value.slice e1 G.l.length g1, .slice e2 G.waits.length g2, .int .i64 G.left, .bool G.down] rfl rfl 50 #[Value.slice a1 D.l.length c1, .slice a2 D.waits.length c2, .int .i64 D.left, .bool D.down] HU7.out.p3 (by kernel_rfl) (Nat.le_refl _) (by intro v hv; simp only [List.mem_cons, List.not_mem_nil, or_false] at hv; rcases hv with rfl | rfl | rfl | rfl <;> rfl) _ rfl ?_; intro w8 hg8 hc8 hs8; have K8 := (NB.Kp.refl (fun k => k = w.heap.size) w7).grown hg8 (fun k e => .inl (by cases e; rfl)); have U8 := HU7.out.inD K8 hc8; have r1 := K8.rd HR1.out (fun x o e hn hk => by have := HX1.out x o e hn; omega); have r2 := K8.rd HR2.out (fun x o e hn hk => by have := HX2.out x o e hn; omega); have p7 := U8.p4.cell 7 _ rfl; have f7 := U8.p4.free 7; have U9 := U8.setS 7 (.int .i64 er); have K9 := (NB.Kp.refl (fun k => k = w.heap.size + 1) w8).setCell (x := ⟨w.heap.size + 1, 7, none⟩) (.inl rfl) (.int .i64 er); have r1 := K9.rd r1 (fun x o e hn hk => by have := HX1.out x o e hn; omega); have r2 := K9.rd r2 (fun x o e hn hk => by have := HX2.out x o e hn; omega); have HR1 := Go.Lib.hid r1; have HR2 := Go.Lib.hid r2; simp only [List.set] at U9; have HU := Go.Lib.hid U9; clear HU7 hg8 hc8 hs8 K8 U8 U9 K9 r1 r2)
    clear p7 f7
    generalize w8.setCell ⟨w.heap.size + 1, 7, none⟩ (.int .i64 er) = w8 at *
    refine NB.wp_region_s [3, 4] (fun w' => Rw w' w.heap.size [Value.slice e1 G.l.length g1, .slice e2 G.waits.length g2, .int .i64 G.left, .bool G.down] 50 ∧ Rw w' (w.heap.size + 1) [Value.int .i64 (S.frm : Int), .int .i64 (S.n : Int), .int .u64 (S.epoch : Int), .slice aL S.l.length cL, .int .i64 (S.used : Int), .int .i64 (S.sure : Int), .int .i64 (S.gone : Int), .int .i64 er] 55) (by kernel_rfl) ?_
    have U9 := HU.out.below (dB' _)
    clear HU
    have r1 := Rd.below HR1.out (dB' _)
    have r2 := Rd.below HR2.out (dB' _)
    have HR1 := Go.Lib.hid r1; have HR2 := Go.Lib.hid r2
    clear r1 r2
    have hst : ∀ x y : World, (Rw x w.heap.size [Value.slice e1 G.l.length g1, .slice e2 G.waits.length g2, .int .i64 G.left, .bool G.down] 50 ∧ Rw x (w.heap.size + 1) [Value.int .i64 (S.frm : Int), .int .i64 (S.n : Int), .int .u64 (S.epoch : Int), .slice aL S.l.length cL, .int .i64 (S.used : Int), .int .i64 (S.sure : Int), .int .i64 (S.gone : Int), .int .i64 er] 55) → Below x.heap.size x y → (Rw y w.heap.size [Value.slice e1 G.l.length g1, .slice e2 G.waits.length g2, .int .i64 G.left, .bool G.down] 50 ∧ Rw y (w.heap.size + 1) [Value.int .i64 (S.frm : Int), .int .i64 (S.n : Int), .int .u64 (S.epoch : Int), .slice aL S.l.length cL, .int .i64 (S.used : Int), .int .i64 (S.sure : Int), .int .i64 (S.gone : Int), .int .i64 er] 55) := fun x y h hb => ⟨h.1.below hb, h.2.below hb⟩
    generalize World.drew _ = w9 at *
    have hA := And.intro U9.p3 U9.p4
    refine NB.s_a 0 rfl (by kernel_rfl) (by go_simp) _ hA hst (fun w' h => NB.run_op_load_agg (off := 0) (m := 4) rfl rfl Try.underlying50 rfl _ _ _ h.1 (by kernel_rfl) (Nat.le_refl _) _ rfl (Below.refl _ _)) (fun K hK => ?_); go_simp; refine hK _ ?_; clear hK K
    refine NB.s_a 1 rfl (by kernel_rfl) (by go_simp) _ hA hst (fun w' h => NB.run_op_load_agg (off := 0) (m := 8) rfl rfl Try.underlying55 rfl _ _ _ h.2 (by kernel_rfl) (Nat.le_refl _) _ rfl (Below.refl _ _)) (fun K hK => ?_); go_simp; refine hK _ ?_; clear hK K
    refine NB.s_p 2 rfl (by kernel_rfl) (fun K hK => ?_); go_simp; refine hK _ ?_; clear hK K
    refine NB.s_w 3 rfl (by kernel_rfl) (by kernel_rfl) rfl (fun Q' hK => ?_)
    refine NB.wpList_store_agg_any rfl 50 (.tmp 4) (.tmp 28) rfl rfl (w.heap.size + 2) 0 #[Value.slice e1 G.l.length g1, .slice e2 G.waits.length g2, .int .i64 G.left, .bool G.down] rfl rfl 50 #[Value.slice none 0 0, .slice none 0 0, .int .i64 0, .bool false] U9.p6 (by kernel_rfl) (Nat.le_refl _) (by intro v hv; simp only [List.mem_cons, List.not_mem_nil, or_false] at hv; rcases hv with rfl | rfl | rfl | rfl <;> rfl) _ rfl ?_
    intro w8 hg8 hc8 hs8
    have K8 := (NB.Kp.refl (fun k => k = w.heap.size + 2) w9).grown hg8 (fun k e => .inl (by cases e; rfl))
    have U8 := U9.outD K8 hc8
    have r1 := K8.rd HR1.out (fun x o e hn hk => by have := HX1.out x o e hn; omega)
    have r2 := K8.rd HR2.out (fun x o e hn hk => by have := HX2.out x o e hn; omega)
    have HR1 := Go.Lib.hid r1; have HR2 := Go.Lib.hid r2
    clear r1 r2
    have hA := And.intro U8.p3 U8.p4
    refine hK _ _ ⟨hA, ?_⟩
    clear hK Q' U9 hg8 hc8 hs8 K8
    refine NB.s_w 4 rfl (by kernel_rfl) (by kernel_rfl) rfl (fun Q' hK => ?_)
    refine NB.wpList_store_agg_any rfl 55 (.tmp 5) (.tmp 29) rfl rfl (w.heap.size + 3) 0 #[Value.int .i64 (S.frm : Int), .int .i64 (S.n : Int), .int .u64 (S.epoch : Int), .slice aL S.l.length cL, .int .i64 (S.used : Int), .int .i64 (S.sure : Int), .int .i64 (S.gone : Int), .int .i64 er] rfl rfl 55 #[Value.int .i64 0, .int .i64 0, .int .u64 0, .slice none 0 0, .int .i64 0, .int .i64 0, .int .i64 0, .int .i64 0] U8.p7 (by kernel_rfl) (Nat.le_refl _) (by intro v hv; simp only [List.mem_cons, List.not_mem_nil, or_false] at hv; rcases hv with rfl | rfl | rfl | rfl | rfl | rfl | rfl | rfl <;> rfl) _ rfl ?_
    intro w7 hg7 hc7 hs7
    have K7 := (NB.Kp.refl (fun k => k = w.heap.size + 3) w8).grown hg7 (fun k e => .inl (by cases e; rfl))
    have U7 := U8.outS K7 hc7
    have r1 := K7.rd HR1.out (fun x o e hn hk => by have := HX1.out x o e hn; omega)
    have r2 := K7.rd HR2.out (fun x o e hn hk => by have := HX2.out x o e hn; omega)
    have HR1 := Go.Lib.hid r1; have HR2 := Go.Lib.hid r2
    clear r1 r2
    have hA := And.intro U7.p3 U7.p4
    refine hK _ _ ⟨hA, ?_⟩
    clear hK Q' U8 hg7 hc7 hs7 K7 hA hst
    refine NB.s_p 5 rfl (by kernel_rfl) (fun K hK => ?_); go_simp; refine hK _ ?_; clear hK K
    refine NB.s_end (by kernel_rfl) ?_
    have HU := Go.Lib.hid U7
    clear U7
    go_wp2_with fail
    have U7 := HU.out
    have p6 := U7.p6; have p7 := U7.p7
    have x0 := p6.cell 0 _ rfl
    have x1 := p6.cell 1 _ rfl
    have x2 := p6.cell 2 _ rfl
    have x3 := p6.cell 3 _ rfl
    have y0 := p7.cell 0 _ rfl
    have y1 := p7.cell 1 _ rfl
    have y2 := p7.cell 2 _ rfl
    have y3 := p7.cell 3 _ rfl
    have y4 := p7.cell 4 _ rfl
    have y5 := p7.cell 5 _ rfl
    have y6 := p7.cell 6 _ rfl
    have y7 := p7.cell 7 _ rfl
    have hlt6 := p6.lt
    have hlt7 := p7.lt
    refine bodyPost_ret (v := .tuple #[.agg #[Value.slice e1 G.l.length g1, .slice e2 G.waits.length g2, .int .i64 G.left, .bool G.down], .agg #[Value.int .i64 (S.frm : Int), .int .i64 (S.n : Int), .int .u64 (S.epoch : Int), .slice aL S.l.length cL, .int .i64 (S.used : Int), .int .i64 (S.sure : Int), .int .i64 (S.gone : Int), .int .i64 er], .int .i64 er]) (by simp [results, Try.results26, go_sem, x0, x1, x2, x3, y0, y1, y2, y3, y4, y5, y6, y7, hlt6, hlt7]) rfl ?_
    have hbel := U7.bel
    rw [HQ.out, if_pos her]
    exact ⟨rdV e1 G.l.length g1 e2 G.waits.length g2 G.left G.down, .agg (sgL { S with e := er } aL cL).toArray, rfl, ⟨e1, g1, e2, g2, rfl, HR1.out, HR2.out⟩, ⟨aL, cL, rfl, Rd.below HS.out hbel⟩, hbel, fun k hk => (HLOC.out k hk).imp id (fun h => by omega), fun k hk => .inl (by obtain ⟨o, e, hn⟩ := locS_row hk; exact ⟨S, aL, cL, o, rfl, e, hn⟩)⟩
  subst her
  go_wp2_with (refine NB.wpList_store_agg_any rfl 50 (.tmp 2) (.tmp 18) rfl rfl w.heap.size 0 #[Value.slice e1 G.l.length g1, .slice e2 G.waits.length g2, .int .i64 G.left, .bool G.down] rfl rfl 50 #[Value.slice a1 D.l.length c1, .slice a2 D.waits.length c2, .int .i64 D.left, .bool D.down] HU7.out.p3 (by kernel_rfl) (Nat.le_refl _) (by intro v hv; simp only [List.mem_cons, List.not_mem_nil, or_false] at hv; rcases hv with rfl | rfl | rfl | rfl <;> rfl) _ rfl ?_; intro w8 hg8 hc8 hs8; have K8 := (NB.Kp.refl (fun k => k = w.heap.size) w7).grown hg8 (fun k e => .inl (by cases e; rfl)); have U8 := HU7.out.inD K8 hc8; have r1 := K8.rd HR1.out (fun x o e hn hk => by have := HX1.out x o e hn; omega); have r2 := K8.rd HR2.out (fun x o e hn hk => by have := HX2.out x o e hn; omega); have p7 := U8.p4.cell 7 _ rfl; have f7 := U8.p4.free 7; have U9 := U8.setS 7 (.int .i64 0); have K9 := (NB.Kp.refl (fun k => k = w.heap.size + 1) w8).setCell (x := ⟨w.heap.size + 1, 7, none⟩) (.inl rfl) (.int .i64 0); have r1 := K9.rd r1 (fun x o e hn hk => by have := HX1.out x o e hn; omega); have r2 := K9.rd r2 (fun x o e hn hk => by have := HX2.out x o e hn; omega); have HR1 := Go.Lib.hid r1; have HR2 := Go.Lib.hid r2; simp only [List.set] at U9; have HU := Go.Lib.hid U9; clear HU7 hg8 hc8 hs8 K8 U8 U9 K9 r1 r2; have p3 := HU.out.p4.cell 3 _ rfl; have p5 := HU.out.p4.cell 5 _ rfl; have f5 := HU.out.p4.free 5)
  clear p7 f7 p3 p5 f5
  have U9 := HU.out.setS 5 (.int .i64 (S.l.length : Int))
  have K9 := (NB.Kp.refl (fun k => k = w.heap.size + 1) (w8.setCell ⟨w.heap.size + 1, 7, none⟩ (.int .i64 0))).setCell (x := ⟨w.heap.size + 1, 5, none⟩) (.inl rfl) (.int .i64 (S.l.length : Int))
  have r1 := K9.rd HR1.out (fun x o e hn hk => by have := HX1.out x o e hn; omega)
  have r2 := K9.rd HR2.out (fun x o e hn hk => by have := HX2.out x o e hn; omega)
  have HR1 := Go.Lib.hid r1; have HR2 := Go.Lib.hid r2
  simp only [List.set] at U9
  have HU := Go.Lib.hid U9
  clear U9 K9 r1 r2
  generalize (w8.setCell ⟨w.heap.size + 1, 7, none⟩ (.int .i64 0)).setCell ⟨w.heap.size + 1, 5, none⟩ (.int .i64 (S.l.length : Int)) = w8 at *
  refine NB.wp_region_s [3, 4] (fun w' => Rw w' w.heap.size [Value.slice e1 G.l.length g1, .slice e2 G.waits.length g2, .int .i64 G.left, .bool G.down] 50 ∧ Rw w' (w.heap.size + 1) [Value.int .i64 (S.frm : Int), .int .i64 (S.n : Int), .int .u64 (S.epoch : Int), .slice aL S.l.length cL, .int .i64 (S.used : Int), .int .i64 (S.l.length : Int), .int .i64 (S.gone : Int), .int .i64 0] 55) (by kernel_rfl) ?_
  have U9 := HU.out.below (dB' _)
  clear HU
  have r1 := Rd.below HR1.out (dB' _)
  have r2 := Rd.below HR2.out (dB' _)
  have HR1 := Go.Lib.hid r1; have HR2 := Go.Lib.hid r2
  clear r1 r2
  have hst : ∀ x y : World, (Rw x w.heap.size [Value.slice e1 G.l.length g1, .slice e2 G.waits.length g2, .int .i64 G.left, .bool G.down] 50 ∧ Rw x (w.heap.size + 1) [Value.int .i64 (S.frm : Int), .int .i64 (S.n : Int), .int .u64 (S.epoch : Int), .slice aL S.l.length cL, .int .i64 (S.used : Int), .int .i64 (S.l.length : Int), .int .i64 (S.gone : Int), .int .i64 0] 55) → Below x.heap.size x y → (Rw y w.heap.size [Value.slice e1 G.l.length g1, .slice e2 G.waits.length g2, .int .i64 G.left, .bool G.down] 50 ∧ Rw y (w.heap.size + 1) [Value.int .i64 (S.frm : Int), .int .i64 (S.n : Int), .int .u64 (S.epoch : Int), .slice aL S.l.length cL, .int .i64 (S.used : Int), .int .i64 (S.l.length : Int), .int .i64 (S.gone : Int), .int .i64 0] 55) := fun x y h hb => ⟨h.1.below hb, h.2.below hb⟩
  generalize World.drew _ = w9 at *
  have hA := And.intro U9.p3 U9.p4
  refine NB.s_a 0 rfl (by kernel_rfl) (by go_simp) _ hA hst (fun w' h => NB.run_op_load_agg (off := 0) (m := 4) rfl rfl Try.underlying50 rfl _ _ _ h.1 (by kernel_rfl) (Nat.le_refl _) _ rfl (Below.refl _ _)) (fun K hK => ?_); go_simp; refine hK _ ?_; clear hK K
  refine NB.s_a 1 rfl (by kernel_rfl) (by go_simp) _ hA hst (fun w' h => NB.run_op_load_agg (off := 0) (m := 8) rfl rfl Try.underlying55 rfl _ _ _ h.2 (by kernel_rfl) (Nat.le_refl _) _ rfl (Below.refl _ _)) (fun K hK => ?_); go_simp; refine hK _ ?_; clear hK K
  refine NB.s_p 2 rfl (by kernel_rfl) (fun K hK => ?_); go_simp; refine hK _ ?_; clear hK K
  refine NB.s_w 3 rfl (by kernel_rfl) (by kernel_rfl) rfl (fun Q' hK => ?_)
  refine NB.wpList_store_agg_any rfl 50 (.tmp 4) (.tmp 28) rfl rfl (w.heap.size + 2) 0 #[Value.slice e1 G.l.length g1, .slice e2 G.waits.length g2, .int .i64 G.left, .bool G.down] rfl rfl 50 #[Value.slice none 0 0, .slice none 0 0, .int .i64 0, .bool false] U9.p6 (by kernel_rfl) (Nat.le_refl _) (by intro v hv; simp only [List.mem_cons, List.not_mem_nil, or_false] at hv; rcases hv with rfl | rfl | rfl | rfl <;> rfl) _ rfl ?_
  intro w8 hg8 hc8 hs8
  have K8 := (NB.Kp.refl (fun k => k = w.heap.size + 2) w9).grown hg8 (fun k e => .inl (by cases e; rfl))
  have U8 := U9.outD K8 hc8
  have r1 := K8.rd HR1.out (fun x o e hn hk => by have := HX1.out x o e hn; omega)
  have r2 := K8.rd HR2.out (fun x o e hn hk => by have := HX2.out x o e hn; omega)
  have HR1 := Go.Lib.hid r1; have HR2 := Go.Lib.hid r2
  clear r1 r2
  have hA := And.intro U8.p3 U8.p4
  refine hK _ _ ⟨hA, ?_⟩
  clear hK Q' U9 hg8 hc8 hs8 K8
  refine NB.s_w 4 rfl (by kernel_rfl) (by kernel_rfl) rfl (fun Q' hK => ?_)
  refine NB.wpList_store_agg_any rfl 55 (.tmp 5) (.tmp 29) rfl rfl (w.heap.size + 3) 0 #[Value.int .i64 (S.frm : Int), .int .i64 (S.n : Int), .int .u64 (S.epoch : Int), .slice aL S.l.length cL, .int .i64 (S.used : Int), .int .i64 (S.l.length : Int), .int .i64 (S.gone : Int), .int .i64 0] rfl rfl 55 #[Value.int .i64 0, .int .i64 0, .int .u64 0, .slice none 0 0, .int .i64 0, .int .i64 0, .int .i64 0, .int .i64 0] U8.p7 (by kernel_rfl) (Nat.le_refl _) (by intro v hv; simp only [List.mem_cons, List.not_mem_nil, or_false] at hv; rcases hv with rfl | rfl | rfl | rfl | rfl | rfl | rfl | rfl <;> rfl) _ rfl ?_
  intro w7 hg7 hc7 hs7
  have K7 := (NB.Kp.refl (fun k => k = w.heap.size + 3) w8).grown hg7 (fun k e => .inl (by cases e; rfl))
  have U7 := U8.outS K7 hc7
  have r1 := K7.rd HR1.out (fun x o e hn hk => by have := HX1.out x o e hn; omega)
  have r2 := K7.rd HR2.out (fun x o e hn hk => by have := HX2.out x o e hn; omega)
  have HR1 := Go.Lib.hid r1; have HR2 := Go.Lib.hid r2
  clear r1 r2
  have hA := And.intro U7.p3 U7.p4
  refine hK _ _ ⟨hA, ?_⟩
  clear hK Q' U8 hg7 hc7 hs7 K7 hA hst
  refine NB.s_p 5 rfl (by kernel_rfl) (fun K hK => ?_); go_simp; refine hK _ ?_; clear hK K
  refine NB.s_end (by kernel_rfl) ?_
  have HU := Go.Lib.hid U7
  clear U7
  go_wp2_with fail
  have U7 := HU.out
  have p6 := U7.p6; have p7 := U7.p7
  have x0 := p6.cell 0 _ rfl
  have x1 := p6.cell 1 _ rfl
  have x2 := p6.cell 2 _ rfl
  have x3 := p6.cell 3 _ rfl
  have y0 := p7.cell 0 _ rfl
  have y1 := p7.cell 1 _ rfl
  have y2 := p7.cell 2 _ rfl
  have y3 := p7.cell 3 _ rfl
  have y4 := p7.cell 4 _ rfl
  have y5 := p7.cell 5 _ rfl
  have y6 := p7.cell 6 _ rfl
  have y7 := p7.cell 7 _ rfl
  have hlt6 := p6.lt
  have hlt7 := p7.lt
  refine bodyPost_ret (v := .tuple #[.agg #[Value.slice e1 G.l.length g1, .slice e2 G.waits.length g2, .int .i64 G.left, .bool G.down], .agg #[Value.int .i64 (S.frm : Int), .int .i64 (S.n : Int), .int .u64 (S.epoch : Int), .slice aL S.l.length cL, .int .i64 (S.used : Int), .int .i64 (S.l.length : Int), .int .i64 (S.gone : Int), .int .i64 0], .int .i64 0]) (by simp [results, Try.results26, go_sem, x0, x1, x2, x3, y0, y1, y2, y3, y4, y5, y6, y7, hlt6, hlt7]) rfl ?_
  have hbel := U7.bel
  rw [HQ.out, if_neg (fun h => h rfl)]
  exact ⟨rdV e1 G.l.length g1 e2 G.waits.length g2 G.left G.down, .agg (sgL { S with sure := S.l.length } aL cL).toArray, by simp [sgL, rdV, he], ⟨e1, g1, e2, g2, rfl, HR1.out, HR2.out⟩, ⟨aL, cL, rfl, Rd.below HS.out hbel⟩, hbel, fun k hk => (HLOC.out k hk).imp id (fun h => by omega), fun k hk => .inl (by obtain ⟨o, e, hn⟩ := locS_row hk; exact ⟨S, aL, cL, o, rfl, e, hn⟩)⟩

theorem rsyn_any (w : World) (v0 s0 : Value) (D : Dk) (S : Sg) (h : RefD w v0 D) (hs : RefS w s0 S)
    (hl : -1 ≤ D.left) (hl2 : D.left ≤ 9223372036854775807) (hln : D.l.length ≤ 65536) (hw : D.waits.length ≤ 100000) (hwi : ∀ x ∈ D.waits, x.1 < D.l.length) (hsl : S.l.length ≤ 60000) :
    Calls Try.prog 26 #[v0, s0] w (SynR w v0 s0 (synM D S)) := by
  obtain ⟨a1, c1, a2, c2, rfl, h1, h2⟩ := h
  obtain ⟨aL, cL, rfl, h3⟩ := hs
  by_cases g2 : S.e = 0
  case neg =>
    refine (rsyn_err w a1 a2 aL D.l.length c1 D.waits.length c2 S.l.length cL D.left D.down S.frm S.n S.epoch S.used S.sure S.gone S.e g2).mono (fun e w' ⟨he, hb⟩ => ?_)
    rw [show synM D S = (D, S, S.e) by unfold synM; rw [if_pos g2]]
    exact ⟨_, _, he, ⟨a1, c1, a2, c2, rfl, Rd.below h1 hb, Rd.below h2 hb⟩, ⟨aL, cL, rfl, Rd.below h3 hb⟩, hb, fun k hk => .inl hk, fun k hk => .inl hk⟩
  have hsv : sgL S aL cL = [Value.int .i64 (S.frm : Int), .int .i64 (S.n : Int), .int .u64 (S.epoch : Int), .slice aL S.l.length cL, .int .i64 (S.used : Int), .int .i64 (S.sure : Int), .int .i64 (S.gone : Int), .int .i64 0] := by unfold sgL; rw [g2]
  have := rsyn_go w D S a1 a2 aL c1 c2 cL h1 h2 h3 hl hl2 hln hw hwi hsl g2
  rw [hsv] at *
  exact this
end Go.Proofs.Ytmgkaoenjnnlmaa
namespace Go.Proofs.Ytmgkaoenjnnlmaa
open Go.RowKit
open Go.NB.Crc
open Go.NB (Rd Dk Kp val)


set_option maxRecDepth 100000 in
set_option maxHeartbeats 8000000 in
theorem rred_neg (w : World) (S : Sg) (aL : Option Addr) (cL : Nat) (k : Int) (hs : Rd 1 w aL S.l.length cL (strsL S.l)) (hsl : S.l.length ≤ 60000) (h : k < 0) :
    Calls Try.prog 60 #[.agg #[Value.int .i64 (S.frm : Int), .int .i64 (S.n : Int), .int .u64 (S.epoch : Int), .slice aL S.l.length cL, .int .i64 (S.used : Int), .int .i64 (S.sure : Int), .int .i64 (S.gone : Int), .int .i64 S.e], .int .i64 k] w fun e w' => e = .returned (.tuple #[.string (ByteArray.mk #[]), .int .i64 15]) ∧ Below w.heap.size w w' := by
  have r3 : Rw (w.alloc (.cells #[Value.int .i64 (S.frm : Int), .int .i64 (S.n : Int), .int .u64 (S.epoch : Int), .slice aL S.l.length cL, .int .i64 (S.used : Int), .int .i64 (S.sure : Int), .int .i64 (S.gone : Int), .int .i64 S.e] 55)) w.heap.size [Value.int .i64 (S.frm : Int), .int .i64 (S.n : Int), .int .u64 (S.epoch : Int), .slice aL S.l.length cL, .int .i64 (S.used : Int), .int .i64 (S.sure : Int), .int .i64 (S.gone : Int), .int .i64 S.e] 55 := rw_new w [Value.int .i64 (S.frm : Int), .int .i64 (S.n : Int), .int .u64 (S.epoch : Int), .slice aL S.l.length cL, .int .i64 (S.used : Int), .int .i64 (S.sure : Int), .int .i64 (S.gone : Int), .int .i64 S.e] 55 rfl
  have ob := oneB' w (.cells #[Value.int .i64 (S.frm : Int), .int .i64 (S.n : Int), .int .u64 (S.epoch : Int), .slice aL S.l.length cL, .int .i64 (S.used : Int), .int .i64 (S.sure : Int), .int .i64 (S.gone : Int), .int .i64 S.e] 55)
  have c3 := r3.cell 3 _ rfl
  have c6 := r3.cell 6 _ rfl
  have hd := decide_eq_true h
  go_enter Try.func60, Try.ntmps60
  go_wp2_with fail
  refine bodyPost_ret (v := .tuple #[.string (ByteArray.mk #[]), .int .i64 15]) (by simp [results, Try.results60, go_sem]) rfl ?_
  exact ⟨rfl, ob⟩

set_option maxRecDepth 100000 in
set_option maxHeartbeats 8000000 in
theorem rred_far (w : World) (S : Sg) (aL : Option Addr) (cL : Nat) (k : Int) (hs : Rd 1 w aL S.l.length cL (strsL S.l)) (hsl : S.l.length ≤ 60000) (h0 : ¬ k < 0) (h : (S.l.length : Int) ≤ k) :
    Calls Try.prog 60 #[.agg #[Value.int .i64 (S.frm : Int), .int .i64 (S.n : Int), .int .u64 (S.epoch : Int), .slice aL S.l.length cL, .int .i64 (S.used : Int), .int .i64 (S.sure : Int), .int .i64 (S.gone : Int), .int .i64 S.e], .int .i64 k] w fun e w' => e = .returned (.tuple #[.string (ByteArray.mk #[]), .int .i64 15]) ∧ Below w.heap.size w w' := by
  have r3 : Rw (w.alloc (.cells #[Value.int .i64 (S.frm : Int), .int .i64 (S.n : Int), .int .u64 (S.epoch : Int), .slice aL S.l.length cL, .int .i64 (S.used : Int), .int .i64 (S.sure : Int), .int .i64 (S.gone : Int), .int .i64 S.e] 55)) w.heap.size [Value.int .i64 (S.frm : Int), .int .i64 (S.n : Int), .int .u64 (S.epoch : Int), .slice aL S.l.length cL, .int .i64 (S.used : Int), .int .i64 (S.sure : Int), .int .i64 (S.gone : Int), .int .i64 S.e] 55 := rw_new w [Value.int .i64 (S.frm : Int), .int .i64 (S.n : Int), .int .u64 (S.epoch : Int), .slice aL S.l.length cL, .int .i64 (S.used : Int), .int .i64 (S.sure : Int), .int .i64 (S.gone : Int), .int .i64 S.e] 55 rfl
  have ob := oneB' w (.cells #[Value.int .i64 (S.frm : Int), .int .i64 (S.n : Int), .int .u64 (S.epoch : Int), .slice aL S.l.length cL, .int .i64 (S.used : Int), .int .i64 (S.sure : Int), .int .i64 (S.gone : Int), .int .i64 S.e] 55)
  have c3 := r3.cell 3 _ rfl
  have c6 := r3.cell 6 _ rfl
  have hd0 := decide_eq_false h0
  have hd := decide_eq_true h
  go_enter Try.func60, Try.ntmps60
  go_wp2_with fail
  refine bodyPost_ret (v := .tuple #[.string (ByteArray.mk #[]), .int .i64 15]) (by simp [results, Try.results60, go_sem]) rfl ?_
  exact ⟨rfl, ob⟩

set_option maxRecDepth 100000 in
set_option maxHeartbeats 8000000 in
theorem rred_gone (w : World) (S : Sg) (aL : Option Addr) (cL : Nat) (k : Int) (hs : Rd 1 w aL S.l.length cL (strsL S.l)) (hsl : S.l.length ≤ 60000) (h0 : ¬ k < 0) (h : ¬ (S.l.length : Int) ≤ k) (hg : k < (S.gone : Int)) :
    Calls Try.prog 60 #[.agg #[Value.int .i64 (S.frm : Int), .int .i64 (S.n : Int), .int .u64 (S.epoch : Int), .slice aL S.l.length cL, .int .i64 (S.used : Int), .int .i64 (S.sure : Int), .int .i64 (S.gone : Int), .int .i64 S.e], .int .i64 k] w fun e w' => e = .returned (.tuple #[.string (ByteArray.mk #[]), .int .i64 35]) ∧ Below w.heap.size w w' := by
  have r3 : Rw (w.alloc (.cells #[Value.int .i64 (S.frm : Int), .int .i64 (S.n : Int), .int .u64 (S.epoch : Int), .slice aL S.l.length cL, .int .i64 (S.used : Int), .int .i64 (S.sure : Int), .int .i64 (S.gone : Int), .int .i64 S.e] 55)) w.heap.size [Value.int .i64 (S.frm : Int), .int .i64 (S.n : Int), .int .u64 (S.epoch : Int), .slice aL S.l.length cL, .int .i64 (S.used : Int), .int .i64 (S.sure : Int), .int .i64 (S.gone : Int), .int .i64 S.e] 55 := rw_new w [Value.int .i64 (S.frm : Int), .int .i64 (S.n : Int), .int .u64 (S.epoch : Int), .slice aL S.l.length cL, .int .i64 (S.used : Int), .int .i64 (S.sure : Int), .int .i64 (S.gone : Int), .int .i64 S.e] 55 rfl
  have ob := oneB' w (.cells #[Value.int .i64 (S.frm : Int), .int .i64 (S.n : Int), .int .u64 (S.epoch : Int), .slice aL S.l.length cL, .int .i64 (S.used : Int), .int .i64 (S.sure : Int), .int .i64 (S.gone : Int), .int .i64 S.e] 55)
  have c3 := r3.cell 3 _ rfl
  have c6 := r3.cell 6 _ rfl
  have hd0 := decide_eq_false h0
  have hd := decide_eq_false h
  have hdg := decide_eq_true hg
  go_enter Try.func60, Try.ntmps60
  go_wp2_with fail
  refine bodyPost_ret (v := .tuple #[.string (ByteArray.mk #[]), .int .i64 35]) (by simp [results, Try.results60, go_sem]) rfl ?_
  exact ⟨rfl, ob⟩

set_option maxRecDepth 100000 in
set_option maxHeartbeats 8000000 in
theorem rred_ok (w : World) (S : Sg) (aL : Option Addr) (cL : Nat) (k : Int) (hs : Rd 1 w aL S.l.length cL (strsL S.l)) (hsl : S.l.length ≤ 60000) (K : Nat) (hk : k = (K : Int)) (h : K < S.l.length) (hg : ¬ (K : Int) < (S.gone : Int)) :
    Calls Try.prog 60 #[.agg #[Value.int .i64 (S.frm : Int), .int .i64 (S.n : Int), .int .u64 (S.epoch : Int), .slice aL S.l.length cL, .int .i64 (S.used : Int), .int .i64 (S.sure : Int), .int .i64 (S.gone : Int), .int .i64 S.e], .int .i64 k] w fun e w' => e = .returned (.tuple #[.string ⟨(S.l.getD K []).toArray⟩, .int .i64 0]) ∧ Below w.heap.size w w' := by
  have r3 : Rw (w.alloc (.cells #[Value.int .i64 (S.frm : Int), .int .i64 (S.n : Int), .int .u64 (S.epoch : Int), .slice aL S.l.length cL, .int .i64 (S.used : Int), .int .i64 (S.sure : Int), .int .i64 (S.gone : Int), .int .i64 S.e] 55)) w.heap.size [Value.int .i64 (S.frm : Int), .int .i64 (S.n : Int), .int .u64 (S.epoch : Int), .slice aL S.l.length cL, .int .i64 (S.used : Int), .int .i64 (S.sure : Int), .int .i64 (S.gone : Int), .int .i64 S.e] 55 := rw_new w [Value.int .i64 (S.frm : Int), .int .i64 (S.n : Int), .int .u64 (S.epoch : Int), .slice aL S.l.length cL, .int .i64 (S.used : Int), .int .i64 (S.sure : Int), .int .i64 (S.gone : Int), .int .i64 S.e] 55 rfl
  have ob := oneB' w (.cells #[Value.int .i64 (S.frm : Int), .int .i64 (S.n : Int), .int .u64 (S.epoch : Int), .slice aL S.l.length cL, .int .i64 (S.used : Int), .int .i64 (S.sure : Int), .int .i64 (S.gone : Int), .int .i64 S.e] 55)
  have c3 := r3.cell 3 _ rfl
  have c6 := r3.cell 6 _ rfl
  subst hk
  have h0 : ¬ (K : Int) < 0 := by omega
  have hn : ¬ (S.l.length : Int) ≤ (K : Int) := by omega
  have hd0 := decide_eq_false h0
  have hd : decide ((S.l.length : Int) ≤ (K : Int)) = false := decide_eq_false hn
  have hdn : decide (S.l.length ≤ K) = false := decide_eq_false (by omega)
  have hdg : decide ((K : Int) < (S.gone : Int)) = false := decide_eq_false hg
  have hdgn : decide (K < S.gone) = false := decide_eq_false (by omega)
  have hw := Rd.below hs ob
  obtain ⟨g, o, rfl, hc⟩ := Rd.pos hw (by omega)
  have hat := strs_at S.l K h
  unfold strL at hat
  have q := hc _ _ hat
  have hKl := h
  have hbd := hw.bound
  clear hc hat hw hs
  obtain ⟨B, hB⟩ : ∃ B, S.l.getD K [] = B := ⟨_, rfl⟩
  rw [hB] at q ⊢
  clear hB
  go_enter Try.func60, Try.ntmps60
  go_wp2_with fail
  refine bodyPost_ret (v := .tuple #[.string ⟨B.toArray⟩, .int .i64 0]) (by simp [results, Try.results60, go_sem]) rfl ?_
  exact ⟨rfl, ob⟩

theorem rred_any (w : World) (v : Value) (S : Sg) (k : Int) (hs : RefS w v S) (hsl : S.l.length ≤ 60000) :
    Calls Try.prog 60 #[v, .int .i64 k] w fun e w' => e = .returned (.tuple #[strL (redM S k).1, .int .i64 (redM S k).2]) ∧ Below w.heap.size w w' := by
  obtain ⟨aL, cL, rfl, h3⟩ := hs
  by_cases g1 : k < 0
  · rw [show redM S k = ([], 15) by unfold redM; rw [if_pos (.inl g1)]]
    exact rred_neg w S aL cL k h3 hsl g1
  by_cases g2 : (S.l.length : Int) ≤ k
  · rw [show redM S k = ([], 15) by unfold redM; rw [if_pos (.inr g2)]]
    exact rred_far w S aL cL k h3 hsl g1 g2
  by_cases g3 : k < (S.gone : Int)
  · rw [show redM S k = ([], 35) by unfold redM; rw [if_neg (by omega), if_pos g3]]
    exact rred_gone w S aL cL k h3 hsl g1 g2 g3
  · rw [show redM S k = (S.l.getD k.toNat [], 0) by unfold redM; rw [if_neg (by omega), if_neg g3]]
    exact rred_ok w S aL cL k h3 hsl k.toNat (by omega) (by omega) (by omega)

/-- What giving up tells. -/
def TrmR (w : World) (s0 : Value) (S : Sg) (e : Ending) (w' : World) : Prop := ∃ s, e = .returned s ∧ RefS w' s S ∧ Below w.heap.size w w' ∧ ∀ k, locS s k → locS s0 k ∨ w.heap.size ≤ k

set_option maxRecDepth 100000 in
set_option maxHeartbeats 8000000 in
theorem rtrm_ss (w : World) (S : Sg) (aL : Option Addr) (cL : Nat) (k : Int) (h1 : (S.sure : Int) < k) (h2 : (S.gone : Int) < (S.sure : Int)) :
    Calls Try.prog 27 #[.agg #[Value.int .i64 (S.frm : Int), .int .i64 (S.n : Int), .int .u64 (S.epoch : Int), .slice aL S.l.length cL, .int .i64 (S.used : Int), .int .i64 (S.sure : Int), .int .i64 (S.gone : Int), .int .i64 S.e], .int .i64 k] w fun e w' => e = .returned (.agg #[Value.int .i64 (S.frm : Int), .int .i64 (S.n : Int), .int .u64 (S.epoch : Int), .slice aL S.l.length cL, .int .i64 (S.used : Int), .int .i64 (S.sure : Int), .int .i64 (S.sure : Int), .int .i64 S.e]) ∧ Below w.heap.size w w' := by
  have d0 : decide ((S.sure : Int) < k) = true := decide_eq_true (by omega)
  have d1 : decide ((S.gone : Int) < (S.sure : Int)) = true := decide_eq_true (by omega)
  have d2 : decide (S.gone < S.sure) = true := decide_eq_true (by omega)
  go_enter Try.func27, Try.ntmps27
  go_wp2_with fail
  refine bodyPost_ret (v := .agg #[Value.int .i64 (S.frm : Int), .int .i64 (S.n : Int), .int .u64 (S.epoch : Int), .slice aL S.l.length cL, .int .i64 (S.used : Int), .int .i64 (S.sure : Int), .int .i64 (S.sure : Int), .int .i64 S.e]) (by simp [results, Try.results27, go_sem]) rfl ?_
  exact ⟨rfl, (oneB' w _).alloc (oneB' w _).size _⟩

set_option maxRecDepth 100000 in
set_option maxHeartbeats 8000000 in
theorem rtrm_sn (w : World) (S : Sg) (aL : Option Addr) (cL : Nat) (k : Int) (h1 : (S.sure : Int) < k) (h2 : ¬ (S.gone : Int) < (S.sure : Int)) :
    Calls Try.prog 27 #[.agg #[Value.int .i64 (S.frm : Int), .int .i64 (S.n : Int), .int .u64 (S.epoch : Int), .slice aL S.l.length cL, .int .i64 (S.used : Int), .int .i64 (S.sure : Int), .int .i64 (S.gone : Int), .int .i64 S.e], .int .i64 k] w fun e w' => e = .returned (.agg #[Value.int .i64 (S.frm : Int), .int .i64 (S.n : Int), .int .u64 (S.epoch : Int), .slice aL S.l.length cL, .int .i64 (S.used : Int), .int .i64 (S.sure : Int), .int .i64 (S.gone : Int), .int .i64 S.e]) ∧ Below w.heap.size w w' := by
  have d0 : decide ((S.sure : Int) < k) = true := decide_eq_true (by omega)
  have d1 : decide ((S.gone : Int) < (S.sure : Int)) = false := decide_eq_false (by omega)
  have d2 : decide (S.gone < S.sure) = false := decide_eq_false (by omega)
  go_enter Try.func27, Try.ntmps27
  go_wp2_with fail
  refine bodyPost_ret (v := .agg #[Value.int .i64 (S.frm : Int), .int .i64 (S.n : Int), .int .u64 (S.epoch : Int), .slice aL S.l.length cL, .int .i64 (S.used : Int), .int .i64 (S.sure : Int), .int .i64 (S.gone : Int), .int .i64 S.e]) (by simp [results, Try.results27, go_sem]) rfl ?_
  exact ⟨rfl, (oneB' w _).alloc (oneB' w _).size _⟩

set_option maxRecDepth 100000 in
set_option maxHeartbeats 8000000 in
theorem rtrm_ks (w : World) (S : Sg) (aL : Option Addr) (cL : Nat) (k : Int) (h1 : ¬ (S.sure : Int) < k) (h2 : (S.gone : Int) < k) :
    Calls Try.prog 27 #[.agg #[Value.int .i64 (S.frm : Int), .int .i64 (S.n : Int), .int .u64 (S.epoch : Int), .slice aL S.l.length cL, .int .i64 (S.used : Int), .int .i64 (S.sure : Int), .int .i64 (S.gone : Int), .int .i64 S.e], .int .i64 k] w fun e w' => e = .returned (.agg #[Value.int .i64 (S.frm : Int), .int .i64 (S.n : Int), .int .u64 (S.epoch : Int), .slice aL S.l.length cL, .int .i64 (S.used : Int), .int .i64 (S.sure : Int), .int .i64 k, .int .i64 S.e]) ∧ Below w.heap.size w w' := by
  have d0 : decide ((S.sure : Int) < k) = false := decide_eq_false (by omega)
  have d1 : decide ((S.gone : Int) < k) = true := decide_eq_true (by omega)
  go_enter Try.func27, Try.ntmps27
  go_wp2_with fail
  refine bodyPost_ret (v := .agg #[Value.int .i64 (S.frm : Int), .int .i64 (S.n : Int), .int .u64 (S.epoch : Int), .slice aL S.l.length cL, .int .i64 (S.used : Int), .int .i64 (S.sure : Int), .int .i64 k, .int .i64 S.e]) (by simp [results, Try.results27, go_sem]) rfl ?_
  exact ⟨rfl, (oneB' w _).alloc (oneB' w _).size _⟩

set_option maxRecDepth 100000 in
set_option maxHeartbeats 8000000 in
theorem rtrm_kn (w : World) (S : Sg) (aL : Option Addr) (cL : Nat) (k : Int) (h1 : ¬ (S.sure : Int) < k) (h2 : ¬ (S.gone : Int) < k) :
    Calls Try.prog 27 #[.agg #[Value.int .i64 (S.frm : Int), .int .i64 (S.n : Int), .int .u64 (S.epoch : Int), .slice aL S.l.length cL, .int .i64 (S.used : Int), .int .i64 (S.sure : Int), .int .i64 (S.gone : Int), .int .i64 S.e], .int .i64 k] w fun e w' => e = .returned (.agg #[Value.int .i64 (S.frm : Int), .int .i64 (S.n : Int), .int .u64 (S.epoch : Int), .slice aL S.l.length cL, .int .i64 (S.used : Int), .int .i64 (S.sure : Int), .int .i64 (S.gone : Int), .int .i64 S.e]) ∧ Below w.heap.size w w' := by
  have d0 : decide ((S.sure : Int) < k) = false := decide_eq_false (by omega)
  have d1 : decide ((S.gone : Int) < k) = false := decide_eq_false (by omega)
  go_enter Try.func27, Try.ntmps27
  go_wp2_with fail
  refine bodyPost_ret (v := .agg #[Value.int .i64 (S.frm : Int), .int .i64 (S.n : Int), .int .u64 (S.epoch : Int), .slice aL S.l.length cL, .int .i64 (S.used : Int), .int .i64 (S.sure : Int), .int .i64 (S.gone : Int), .int .i64 S.e]) (by simp [results, Try.results27, go_sem]) rfl ?_
  exact ⟨rfl, (oneB' w _).alloc (oneB' w _).size _⟩

theorem rtrm_any (w : World) (v : Value) (S : Sg) (k : Int) (hs : RefS w v S) : Calls Try.prog 27 #[v, .int .i64 k] w (TrmR w v (trmM S k)) := by
  obtain ⟨aL, cL, rfl, h3⟩ := hs
  have fin : ∀ (G : Nat) (e : Ending) (w' : World), (trmM S k).gone = G → e = .returned (.agg #[Value.int .i64 (S.frm : Int), .int .i64 (S.n : Int), .int .u64 (S.epoch : Int), .slice aL S.l.length cL, .int .i64 (S.used : Int), .int .i64 (S.sure : Int), .int .i64 (G : Int), .int .i64 S.e]) ∧ Below w.heap.size w w' → TrmR w (.agg (sgL S aL cL).toArray) (trmM S k) e w' := fun G e w' hG ⟨he, hb⟩ => by
    have hq : trmM S k = { S with gone := G } := by rw [← hG]; rfl
    rw [hq]
    exact ⟨.agg (sgL { S with gone := G } aL cL).toArray, he, ⟨aL, cL, rfl, Rd.below h3 hb⟩, hb, fun j hj => .inl (by obtain ⟨o, e, hn⟩ := locS_row hj; exact ⟨S, aL, cL, o, rfl, e, hn⟩)⟩
  have hg : (trmM S k).gone = (max (S.gone : Int) (min k S.sure)).toNat := rfl
  by_cases h1 : (S.sure : Int) < k
  · by_cases h2 : (S.gone : Int) < (S.sure : Int)
    · exact (rtrm_ss w S aL cL k h1 h2).mono (fun e w' h => fin S.sure e w' (by rw [hg]; omega) h)
    · exact (rtrm_sn w S aL cL k h1 h2).mono (fun e w' h => fin S.gone e w' (by rw [hg]; omega) h)
  · by_cases h2 : (S.gone : Int) < k
    · obtain ⟨K, rfl⟩ := Int.eq_ofNat_of_zero_le (show 0 ≤ k by omega)
      exact (rtrm_ks w S aL cL K h1 h2).mono (fun e w' h => fin K e w' (by rw [hg]; omega) h)
    · exact (rtrm_kn w S aL cL k h1 h2).mono (fun e w' h => fin S.gone e w' (by rw [hg]; omega) h)
end Go.Proofs.Ytmgkaoenjnnlmaa
namespace Go.Proofs.Ytmgkaoenjnnlmaa
open Go.RowKit
open Go.NB.Crc
open Go.NB (Rd Dk Kp val)

def recM (long : Bool) (b : List UInt8) : List UInt8 := if long then (List.replicate 7 b).flatten else b
theorem recM_len (long : Bool) (b : List UInt8) (h : b.length ≤ 60) : (recM long b).length ≤ 420 := by
  unfold recM
  split
  · simp only [List.length_flatten, List.map_replicate, List.sum_replicate_nat]; omega
  · omega
theorem rep_snoc (i : Nat) (b : List UInt8) : (List.replicate i b).flatten ++ b = (List.replicate (i + 1) b).flatten := by
  rw [List.replicate_succ']; simp
/-- What is told as a record. -/
def RecR (w : World) (a : Option Addr) (b : List UInt8) (e : Ending) (w' : World) : Prop :=
  ∃ a' c', e = .returned (.slice a' b.length c') ∧ NB.RdB w' a' b.length c' b ∧ Below w.heap.size w w' ∧ ∀ k o, a' = some ⟨k, o, none⟩ → a' = a ∨ w.heap.size ≤ k
set_option maxRecDepth 100000 in
set_option maxHeartbeats 8000000 in
theorem rec_any (w : World) (kd N : Int) (a : Option Addr) (c : Nat) (b : List UInt8) (long : Bool) (h : NB.RdB w a b.length c b) (hb : b.length ≤ 60) :
    Calls Try.prog 24 #[.agg #[.int .i64 kd, .int .i64 N, .slice a b.length c, .bool long]] w (RecR w a (recM long b)) := by
  cases long with
  | false =>
    have ob := oneB' w (.cells #[.int .i64 kd, .int .i64 N, .slice a b.length c, .bool false] 59)
    go_enter Try.func24, Try.ntmps24
    go_wp2_with fail
    go_ret
    exact ⟨a, c, rfl, Rd.below h ob, ob, fun k o e => .inl rfl⟩
  | true =>
    obtain ⟨B, hB⟩ : ∃ B, recM true b = B := ⟨_, rfl⟩
    have hB7 : (List.replicate 7 b).flatten = B := hB
    rw [hB]
    clear hB
    have HB7 := Go.Lib.hid hB7
    clear hB7
    have R1 : Rw (w.alloc (.cells #[.int .i64 kd, .int .i64 N, .slice a b.length c, .bool true] 59)) w.heap.size [.int .i64 kd, .int .i64 N, .slice a b.length c, .bool true] 59 := rw_new w [.int .i64 kd, .int .i64 N, .slice a b.length c, .bool true] _ rfl
    have ob := oneB' w (.cells #[.int .i64 kd, .int .i64 N, .slice a b.length c, .bool true] 59)
    have x3 := R1.cell 3 _ rfl
    go_enter Try.func24, Try.ntmps24
    go_wp2_with fail
    clear x3
    generalize w.alloc (.cells #[.int .i64 kd, .int .i64 N, .slice a b.length c, .bool true] 59) = w1 at *
    have hnil : w1.ownsRow (w.heap.size + 1) 5 1 (.slice none 0 0) 0 ((List.replicate 0 b).flatten.map NB.u8v) := World.ownsRow_nil _ _ _ _
    go_loopw [3, 4] (fun x y wr => ∃ (i : Nat) (A : Option Addr) (C : Nat), x = .slice A (i * b.length) C ∧ y = .int .i64 (i : Int) ∧ i ≤ 7 ∧ Rw wr w.heap.size [.int .i64 kd, .int .i64 N, .slice a b.length c, .bool true] 59 ∧ Below w.heap.size w wr ∧ wr.ownsRow (w.heap.size + 1) 5 1 (.slice A (i * b.length) C) (i * b.length) ((List.replicate i b).flatten.map NB.u8v)) (fun _ y _ => 7 - (intOf y).toNat)
    case atStart => exact ⟨0, none, 0, by simp, rfl, by omega, R1, ob, by simpa using hnil⟩
    case round =>
      clear R1 ob hnil
      obtain ⟨i, A, C, rfl, rfl, hi, R1, ob, own⟩ := hrel
      have hib : i * b.length ≤ 7 * b.length := Nat.mul_le_mul_right _ hi
      by_cases h7 : i < 7
      · have hi7 : (i : Int) < 7 := by omega
        have hd := decide_eq_true hi7
        have hdn : decide (i < 7) = true := decide_eq_true h7
        have x2 := R1.cell 2 _ rfl
        have hb1 := Rd.below h ob
        have hsz : w.heap.size + 1 ≤ wr.heap.size := by have := R1.lt; omega
        have HR1 := Go.Lib.hid R1; have HOB := Go.Lib.hid ob
        clear R1 ob
        go_wp2_with (at_builtin; refine NB.wpList_append_at rfl (.tmp 14) (.tmp 16) 23 rfl (w.heap.size + 1) slTB _ _ _ rfl own a b.length c (b.map NB.u8v) rfl hb1 (NB.u8v_one b) (by omega) (by unfold maxLen; omega) hsz ?_; intro v8 w8 ho8 hg8 hv8; obtain ⟨A8, C8, rfl, _⟩ := NB.rd_of_own ho8; have K8 := (NB.Kp.refl (fun k => (Value.slice A (i * b.length) C).ownBlock = some k) wr).grown hg8 (fun k e => .inl e); have R8 := HR1.out.keep K8 (fun hk => by have := (own.lt _ hk).1; omega); have B8 := HOB.out.trans (K8.belowB (B := w.heap.size) HOB.out.size (fun k hk => by have := (own.lt _ hk).1; omega)); rw [← List.map_append, rep_snoc, ← Nat.succ_mul] at ho8)
        exact ⟨⟨i + 1, A8, C8, by rw [Nat.succ_mul], rfl, by omega, R8, B8, ho8⟩, by simp [intOf]; omega⟩
      · obtain rfl : i = 7 := by omega
        go_wp2_with fail
        go_ret
        have hlen : B.length = 7 * b.length := by rw [← HB7.out]; simp; omega
        obtain ⟨a1, c1, e1, hr, hl, _⟩ := NB.rd_of_own own
        cases e1
        rw [HB7.out, ← hlen] at hr
        exact ⟨A, C, by rw [hlen]; rfl, hr, ob, fun k o e => .inr (by have := (hl k o e).1; omega)⟩
set_option maxRecDepth 100000 in
set_option maxHeartbeats 8000000 in
theorem has_any (Ho : Nat → Prop) (w0 w : World) (q p : Nat) (D : Dk) (S : Sg) (v : Value) (hS : SdH Ho w0 w q p D S) (hR : RefS w v S) (hsl : S.l.length ≤ 60000) (hbl : ∀ b ∈ S.l, b.length ≤ 5000) (hn : S.n ≤ 1000000) (hu : S.used ≤ 1000000) :
    Calls Try.prog 34 #[.pointer (some ⟨q, 0, none⟩), v] w fun e w' => e = .returned (.bool true) ∧ Below w.heap.size w w' := by
  obtain ⟨aL, cL, rfl, h3⟩ := hR
  have hrl : ∀ k, (redM S k).1.length ≤ 5000 := fun k => by
    unfold redM
    split
    · simp
    split
    · simp
    · rename_i h1 h2
      have hN : k.toNat < S.l.length := by omega
      rw [List.getD_eq_getElem?_getD, List.getElem?_eq_getElem hN]; exact hbl _ (List.getElem_mem hN)
  have HRL := Go.Lib.hid hrl
  clear hrl
  have R1 := rw_new w [Value.int .i64 (S.frm : Int), .int .i64 (S.n : Int), .int .u64 (S.epoch : Int), .slice aL S.l.length cL, .int .i64 (S.used : Int), .int .i64 (S.sure : Int), .int .i64 (S.gone : Int), .int .i64 S.e] 55 rfl
  have ob := oneB' w (.cells #[Value.int .i64 (S.frm : Int), .int .i64 (S.n : Int), .int .u64 (S.epoch : Int), .slice aL S.l.length cL, .int .i64 (S.used : Int), .int .i64 (S.sure : Int), .int .i64 (S.gone : Int), .int .i64 S.e] 55)
  have wxn : IntKind.i64.wrap ((S.n : Int) - (S.used : Int)) = (S.n : Int) - (S.used : Int) := IntWalk.i64_in _ (by omega)
  simp only [List.toArray] at R1
  unfold sgL
  go_enter Try.func34, Try.ntmps34
  go_wp2_with fail
  generalize w.alloc (.cells #[Value.int .i64 (S.frm : Int), .int .i64 (S.n : Int), .int .u64 (S.epoch : Int), .slice aL S.l.length cL, .int .i64 (S.used : Int), .int .i64 (S.sure : Int), .int .i64 (S.gone : Int), .int .i64 S.e] 55) = w1 at *
  refine NB.wp_region_m (by kernel_rfl) ?_
  have R2 := R1.below (Below.refl _ w1).drew
  have B2 : Below w.heap.size w w1.drew := ob.drew
  clear R1 ob
  generalize w1.drew = w2 at *
  have x1 := R2.cell 1 _ rfl
  have x3 := R2.cell 3 _ rfl
  have x4 := R2.cell 4 _ rfl
  have x5 := R2.cell 5 _ rfl
  have hS2 := hS.below B2
  refine NB.any_p 0 rfl (by kernel_rfl) (fun K hK => ?_); go_simp; refine hK _ ?_; clear hK K
  refine NB.any_p 2 rfl (by kernel_rfl) (fun K hK => ?_); go_simp; refine hK _ ?_; clear hK K
  refine NB.any_r 3 rfl (by kernel_rfl) rfl _ (fun w' hw' => NB.run_op_load rfl rfl Try.underlying32 rfl (x3) hw') (fun K hK => ?_); go_simp; refine hK _ ?_; clear hK K
  refine NB.any_p 4 rfl (by kernel_rfl) (fun K hK => ?_); go_simp; refine hK _ ?_; clear hK K
  refine NB.any_e 1 rfl (by kernel_rfl) (fun K hK => ?_); unfold NB.moves; go_simp; refine (qs_len w0 _ q p D S hS2.sd).mono ?_; rintro e w' ⟨rfl, e2⟩; subst w'; refine ⟨_, rfl, Below.refl _ _, hK _ _ ?_⟩; clear hK K
  refine NB.any_p 5 rfl (by kernel_rfl) (fun K hK => ?_); go_simp; refine hK _ ?_; clear hK K
  refine NB.any_p 6 rfl (by kernel_rfl) (fun K hK => ?_); go_simp; refine hK _ ?_; clear hK K
  refine NB.any_p 7 rfl (by kernel_rfl) (fun K hK => ?_); go_simp; refine hK _ ?_; clear hK K
  refine NB.any_p 9 rfl (by kernel_rfl) (fun K hK => ?_); go_simp; refine hK _ ?_; clear hK K
  refine NB.any_r 10 rfl (by kernel_rfl) rfl _ (fun w' hw' => NB.run_op_load rfl rfl Try.underlying3 rfl (x5) hw') (fun K hK => ?_); go_simp; refine hK _ ?_; clear hK K
  refine NB.any_e 8 rfl (by kernel_rfl) (fun K hK => ?_); unfold NB.moves; go_simp; refine (qs_sure w0 _ q p D S hS2.sd).mono ?_; rintro e w' ⟨rfl, e2⟩; subst w'; refine ⟨_, rfl, Below.refl _ _, hK _ _ ?_⟩; clear hK K
  refine NB.any_p 11 rfl (by kernel_rfl) (fun K hK => ?_); go_simp; refine hK _ ?_; clear hK K
  refine NB.any_p 12 rfl (by kernel_rfl) (fun K hK => ?_); go_simp; refine hK _ ?_; clear hK K
  refine NB.any_p 13 rfl (by kernel_rfl) (fun K hK => ?_); go_simp; refine hK _ ?_; clear hK K
  refine NB.any_p 14 rfl (by kernel_rfl) (fun K hK => ?_); go_simp; refine hK _ ?_; clear hK K
  refine NB.any_p 16 rfl (by kernel_rfl) (fun K hK => ?_); go_simp; refine hK _ ?_; clear hK K
  refine NB.any_r 17 rfl (by kernel_rfl) rfl _ (fun w' hw' => NB.run_op_load rfl rfl Try.underlying3 rfl (x1) hw') (fun K hK => ?_); go_simp; refine hK _ ?_; clear hK K
  refine NB.any_p 18 rfl (by kernel_rfl) (fun K hK => ?_); go_simp; refine hK _ ?_; clear hK K
  refine NB.any_r 19 rfl (by kernel_rfl) rfl _ (fun w' hw' => NB.run_op_load rfl rfl Try.underlying3 rfl (x4) hw') (fun K hK => ?_); go_simp; refine hK _ ?_; clear hK K
  refine NB.any_p 20 rfl (by kernel_rfl) (fun K hK => ?_); go_simp; refine hK _ ?_; clear hK K
  refine NB.any_e 15 rfl (by kernel_rfl) (fun K hK => ?_); unfold NB.moves; go_simp; refine (qs_free w0 _ q p D S hS2.sd).mono ?_; rintro e w' ⟨rfl, hS3, hb3⟩; refine ⟨_, rfl, hb3, hK _ _ ?_⟩; clear hK K
  refine NB.any_p 21 rfl (by kernel_rfl) (fun K hK => ?_); go_simp; refine hK _ ?_; clear hK K
  refine NB.any_p 22 rfl (by kernel_rfl) (fun K hK => ?_); go_simp; refine hK _ ?_; clear hK K
  refine NB.any_end (by kernel_rfl) ?_
  have R3 := R2.below hb3
  have B3 := bel' B2 hb3 B2.size
  clear x1 x3 x4 x5 R2 B2 hS2 hb3
  go_wp2_with fail
  go_loopw [5] (fun x wr => ∃ z : Int, -1 ≤ z ∧ z ≤ (S.l.length : Int) + 1 ∧ x = .int .i64 z ∧ Rw wr w.heap.size [Value.int .i64 (S.frm : Int), .int .i64 (S.n : Int), .int .u64 (S.epoch : Int), .slice aL S.l.length cL, .int .i64 (S.used : Int), .int .i64 (S.sure : Int), .int .i64 (S.gone : Int), .int .i64 S.e] 55 ∧ Below w.heap.size w wr) (fun x _ => ((S.l.length : Int) + 1 - intOf x).toNat)
  case atStart => exact ⟨-1, by omega, by omega, rfl, R3, B3⟩
  case round =>
    clear R3 B3 hS3
    obtain ⟨z, hz0, hz1, rfl, R2, B2⟩ := hrel
    have x3 := R2.cell 3 _ rfl
    by_cases hlt : z ≤ (S.l.length : Int)
    · have hS2 := hS.below B2
      obtain ⟨X, e, hr⟩ : ∃ X e, redM S z = (X, e) := ⟨_, _, rfl⟩
      have hrz := HRL.out z
      rw [hr] at hrz
      simp only at hrz
      have hrr := fun w1 hb => rred_any w1 (.agg (sgL S aL cL).toArray) S z ⟨aL, cL, rfl, Rd.below h3 hb⟩ hsl
      rw [hr] at hrr
      unfold strL sgL at hrr
      simp only at hrr
      have hqr := qh_read Ho w0 wr q p D S z hS2 (fun b hb => by have := hbl b hb; omega)
      rw [hr] at hqr
      have HQR := Go.Lib.hid hqr
      have HRR := Go.Lib.hid hrr
      have HBL := Go.Lib.hid hbl
      clear hrr hr hqr hbl
      go_wp2_with (first
        | (go_at_call 17; refine HQR.out.mono ?_; rintro e5 w5 ⟨a5, k5, rfl, hr5, hl5, _, hb5⟩; have B5 := bel' B2 hb5 B2.size; have R5 := R2.below hb5; clear x3; have x0 := R5.cell 0 _ rfl; have x1 := R5.cell 1 _ rfl; have x2 := R5.cell 2 _ rfl; have x3 := R5.cell 3 _ rfl; have x4 := R5.cell 4 _ rfl; have x5 := R5.cell 5 _ rfl; have x6 := R5.cell 6 _ rfl; have x7 := R5.cell 7 _ rfl)
        | (go_at_call 60; refine (HRR.out w5 B5).mono ?_; rintro e6 w6 ⟨rfl, hb6⟩; have hr6 := Rd.below hr5 hb6; have B6 := bel' B5 hb6 B5.size; have R6 := R5.below hb6; clear x0 x1 x2 x3 x4 x5 x6 x7)
        | (refine NB.wpList_conv_str rfl 23 9 (.tmp 52) rfl Try.underlying23 Try.underlying5 Try.underlying9 a5 _ k5 X rfl hr6 ?_))
      exact ⟨⟨z + 1, by omega, by omega, by simp, R6, B6⟩, by simp only [intOf]; omega⟩
    · go_wp2_with fail
      go_ret
      exact ⟨rfl, B2⟩
end Go.Proofs.Ytmgkaoenjnnlmaa
