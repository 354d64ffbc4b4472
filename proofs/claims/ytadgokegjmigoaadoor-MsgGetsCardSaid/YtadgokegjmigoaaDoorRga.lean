/- The reference on messages: keep and take, all fields but the row of numbers: walked. -/
import Derived.Test.YtadgokegjmigoaaDoorRma
import Derived.Test.YtadgokegjmigoaaDoorMgg
import Derived.Test.YtadgokegjmigoaaDoorFry
import Derived.Test.YtadgokegjmigoaaDoorTrs
namespace Go.Proofs.YtadgokegjmigoaaDoor
open Go.RowKit Go.Shelf
open Go.NB (Rd Kp Stp Off Dis oneB dB Rw RdU Lp Rr encU encB digs)

def mVl (m : Mm) (av : Option Addr) (cv : Nat) : List Value := [.int .i64 m.kind, .int .u64 (m.ballot : Int), .int .u64 (m.slot : Int), .int .i64 m.shard, .int .i64 m.seg, .int .u64 (m.client : Int), .int .u64 (m.seq : Int), .int .u64 (m.pos : Int), .int .i64 m.code, .slice av m.vec.length cv, .string (ByteArray.mk m.body.toArray)]
/-- What taking a field tells. -/
def TakeE (w : World) (f : Nat) (m : Mm) (av : Option Addr) (cv : Nat) (r : Rr) (e : Ending) (w' : World) : Prop :=
  ∃ (m' : Mm) (av' : Option Addr) (cv' : Nat), e = .returned (.tuple #[.agg (mVl m' av' cv').toArray, .agg #[.string (ByteArray.mk (readF f m r).1.b.toArray), .int .i64 (readF f m r).1.e]]) ∧ RdU w' av' m'.vec.length cv' m'.vec ∧ Below w.heap.size w w' ∧ ((readF f m r).1.e = 0 → m' = (readF f m r).2) ∧
    (f ≠ 8 → av' = av ∧ cv' = cv ∧ m'.vec = m.vec) ∧ (∀ j o, av' = some ⟨j, o, none⟩ → f = 8 → w.heap.size ≤ j)
theorem take_mk {w w' : World} {f : Nat} {m : Mm} {av : Option Addr} {cv : Nat} {r : Rr} (R : Rr) (h1 : (readF f m r).1 = R) (hf : f ≠ 8) (m' : Mm) (hv : m'.vec = m.vec) (hR : RdU w av m.vec.length cv m.vec) (hb : Below w.heap.size w w') (h2 : R.e = 0 → m' = (readF f m r).2) :
    TakeE w f m av cv r (.returned (.tuple #[.agg (mVl m' av cv).toArray, .agg #[.string (ByteArray.mk R.b.toArray), .int .i64 R.e]])) w' :=
  ⟨m', av, cv, by rw [h1], by rw [hv]; exact ⟨Rd.below hR.1 hb, hR.2⟩, hb, by rw [h1]; exact h2, fun _ => ⟨rfl, rfl, hv⟩, fun _ _ _ h => absurd h hf⟩
theorem upto_er {r R' : Rr} {x : Nat} (h : r.uint = (R', x)) (er : Int) (be : Nat) (he : R'.e ≠ 0) : Rr.upto er be r = (R', x) := by unfold Rr.upto; rw [h, if_neg (fun h' => he h'.1)]
theorem upto_ok {r R' : Rr} {x : Nat} (h : r.uint = (R', x)) (er : Int) (be : Nat) (hx : x < be) : Rr.upto er be r = (R', x) := by unfold Rr.upto; rw [h, if_neg (by simp only; omega)]
theorem upto_big {r R' : Rr} {x : Nat} (h : r.uint = (R', x)) (er : Int) (be : Nat) (he : R'.e = 0) (hx : be ≤ x) : Rr.upto er be r = (⟨R'.b, er⟩, 0) := by unfold Rr.upto; rw [h, if_pos ⟨he, hx⟩]
/-- What stands while a field is taken. -/
structure TK (w : World) (mv rv : List Value) (W : World) : Prop where
  p3 : Rw W w.heap.size mv 36
  p4 : Rw W (w.heap.size + 1) rv 74
  p6 : Rw W (w.heap.size + 2) [Value.int .i64 0, .int .u64 0, .int .u64 0, .int .i64 0, .int .i64 0, .int .u64 0, .int .u64 0, .int .u64 0, .int .i64 0, .slice none 0 0, .string (ByteArray.mk #[])] 36
  p7 : Rw W (w.heap.size + 3) [Value.string (ByteArray.mk #[]), .int .i64 0] 74
  bel : Below w.heap.size w W
section
variable {w W W' : World} {mv rv : List Value}
theorem TK.below (h : TK w mv rv W) (hb : Below W.heap.size W W') : TK w mv rv W' := ⟨h.p3.below hb, h.p4.below hb, h.p6.below hb, h.p7.below hb, NB.bel h.bel hb h.bel.size⟩
theorem TK.setM (h : TK w mv rv W) (k : Nat) (v : Value) : TK w (mv.set k v) rv (W.setCell ⟨w.heap.size, k, none⟩ v) :=
  ⟨h.p3.set k v, h.p4.other (by omega) k v, h.p6.other (by omega) k v, h.p7.other (by omega) k v, h.bel.setCell (p := ⟨w.heap.size, k, none⟩) (Nat.le_refl _) v⟩
theorem TK.setR (h : TK w mv rv W) (k : Nat) (v : Value) : TK w mv (rv.set k v) (W.setCell ⟨w.heap.size + 1, k, none⟩ v) :=
  ⟨h.p3.other (by omega) k v, h.p4.set k v, h.p6.other (by omega) k v, h.p7.other (by omega) k v, h.bel.setCell (p := ⟨w.heap.size + 1, k, none⟩) (by simp) v⟩
theorem TK.start (w : World) (v0 v1 v2 v3 v4 v5 v6 v7 v8 v9 v10 s e : Value) : TK w [v0, v1, v2, v3, v4, v5, v6, v7, v8, v9, v10] [s, e] ((((w.alloc (.cells #[v0, v1, v2, v3, v4, v5, v6, v7, v8, v9, v10] 36)).alloc (.cells #[s, e] 74)).alloc (.cells #[Value.int .i64 0, .int .u64 0, .int .u64 0, .int .i64 0, .int .i64 0, .int .u64 0, .int .u64 0, .int .u64 0, .int .i64 0, .slice none 0 0, .string (ByteArray.mk #[])] 36)).alloc (.cells #[Value.string (ByteArray.mk #[]), .int .i64 0] 74)) := by
  have a1 := NB.rw_new w [v0, v1, v2, v3, v4, v5, v6, v7, v8, v9, v10] 36 rfl
  have o1 := oneB w (.cells #[v0, v1, v2, v3, v4, v5, v6, v7, v8, v9, v10] 36)
  simp only [List.toArray] at a1
  generalize h1 : w.alloc (.cells #[v0, v1, v2, v3, v4, v5, v6, v7, v8, v9, v10] 36) = w1 at *
  have z1 : w1.heap.size = w.heap.size + 1 := by rw [← h1]; simp
  have a2 := NB.rw_new w1 [s, e] 74 rfl
  have o2 := oneB w1 (.cells #[s, e] 74)
  simp only [List.toArray] at a2
  generalize h2 : w1.alloc (.cells #[s, e] 74) = w2 at *
  have z2 : w2.heap.size = w.heap.size + 2 := by rw [← h2]; simp [z1]
  have a3 := NB.rw_new w2 [Value.int .i64 0, .int .u64 0, .int .u64 0, .int .i64 0, .int .i64 0, .int .u64 0, .int .u64 0, .int .u64 0, .int .i64 0, .slice none 0 0, .string (ByteArray.mk #[])] 36 rfl
  have o3 := oneB w2 (.cells #[Value.int .i64 0, .int .u64 0, .int .u64 0, .int .i64 0, .int .i64 0, .int .u64 0, .int .u64 0, .int .u64 0, .int .i64 0, .slice none 0 0, .string (ByteArray.mk #[])] 36)
  simp only [List.toArray] at a3
  generalize h3 : w2.alloc (.cells #[Value.int .i64 0, .int .u64 0, .int .u64 0, .int .i64 0, .int .i64 0, .int .u64 0, .int .u64 0, .int .u64 0, .int .i64 0, .slice none 0 0, .string (ByteArray.mk #[])] 36) = w3 at *
  have z3 : w3.heap.size = w.heap.size + 3 := by rw [← h3]; simp [z2]
  have a4 := NB.rw_new w3 [Value.string (ByteArray.mk #[]), .int .i64 0] 74 rfl
  have o4 := oneB w3 (.cells #[Value.string (ByteArray.mk #[]), .int .i64 0] 74)
  simp only [List.toArray] at a4
  rw [z1] at a2
  rw [z2] at a3
  rw [z3] at a4
  have B2 := NB.bel o1 o2 o1.size
  have B3 := NB.bel B2 o3 B2.size
  exact ⟨((a1.below o2).below o3).below o4, (a2.below o3).below o4, a3.below o4, a4, NB.bel B3 o4 B3.size⟩
end

set_option maxHeartbeats 1000000 in
theorem keep_any (w : World) (r : Rr) (s : List UInt8) : Calls Tryd.prog 57 #[.agg #[.string (ByteArray.mk r.b.toArray), .int .i64 r.e], .string (ByteArray.mk s.toArray)] w fun e w' => e = .returned (.tuple #[.agg #[.string (ByteArray.mk r.b.toArray), .int .i64 r.e], .string (ByteArray.mk s.toArray)]) ∧ Below w.heap.size w w' := by
  go_enter Tryd.func57, Tryd.ntmps57
  go_wp2
  refine bodyPost_ret (v := .tuple #[.agg #[.string (ByteArray.mk r.b.toArray), .int .i64 r.e], .string (ByteArray.mk s.toArray)]) (by simp [results, Tryd.results57, go_sem]) rfl ⟨rfl, ?_⟩
  exact ((Below.refl _ _).alloc (Nat.le_refl _) _).alloc (by simp) _

set_option maxRecDepth 100000 in
set_option maxHeartbeats 8000000 in
theorem take_0 (w : World) (m : Mm) (av : Option Addr) (cv : Nat) (r : Rr) (hR : RdU w av m.vec.length cv m.vec) (hl : r.b.length ≤ 100000000) :
    Calls Tryd.prog 30 #[.agg #[.int .i64 m.kind, .int .u64 (m.ballot : Int), .int .u64 (m.slot : Int), .int .i64 m.shard, .int .i64 m.seg, .int .u64 (m.client : Int), .int .u64 (m.seq : Int), .int .u64 (m.pos : Int), .int .i64 m.code, .slice av m.vec.length cv, .string (ByteArray.mk m.body.toArray)], .agg #[.string (ByteArray.mk r.b.toArray), .int .i64 r.e], .int .u8 98] w (TakeE w 0 m av cv r) := by
  have ctr := fun w => refRead_any w r hl
  unfold refR RefRU at ctr
  obtain ⟨R', x, hrx⟩ : ∃ R' x, r.uint = (R', x) := ⟨_, _, rfl⟩
  rw [hrx] at ctr
  simp only at ctr
  have HC := Go.Lib.hid ctr; have HRX := Go.Lib.hid hrx
  clear ctr hrx
  have T0 := TK.start w (.int .i64 m.kind) (.int .u64 (m.ballot : Int)) (.int .u64 (m.slot : Int)) (.int .i64 m.shard) (.int .i64 m.seg) (.int .u64 (m.client : Int)) (.int .u64 (m.seq : Int)) (.int .u64 (m.pos : Int)) (.int .i64 m.code) (.slice av m.vec.length cv) (.string (ByteArray.mk m.body.toArray)) (.string (ByteArray.mk r.b.toArray)) (.int .i64 r.e)
  have HR := Go.Lib.hid hR
  clear hR
  go_enter Tryd.func30, Tryd.ntmps30
  go_wp2_with fail
  generalize ((((w.alloc (.cells #[.int .i64 m.kind, .int .u64 (m.ballot : Int), .int .u64 (m.slot : Int), .int .i64 m.shard, .int .i64 m.seg, .int .u64 (m.client : Int), .int .u64 (m.seq : Int), .int .u64 (m.pos : Int), .int .i64 m.code, .slice av m.vec.length cv, .string (ByteArray.mk m.body.toArray)] 36)).alloc (.cells #[.string (ByteArray.mk r.b.toArray), .int .i64 r.e] 74)).alloc (.cells #[.int .i64 0, .int .u64 0, .int .u64 0, .int .i64 0, .int .i64 0, .int .u64 0, .int .u64 0, .int .u64 0, .int .i64 0, .slice none 0 0, .string (ByteArray.mk #[])] 36)).alloc (.cells #[.string (ByteArray.mk #[]), .int .i64 0] 74)) = w4 at *
  refine (HC.out _).mono ?_
  rintro e w5 ⟨rfl, hb5⟩
  have T5 := T0.below hb5
  clear T0 hb5
  obtain ⟨p0, p1, n0, n1⟩ := NB.rw2 T5.p4
  have T6 := (T5.setR 0 (.string (ByteArray.mk R'.b.toArray))).setR 1 (.int .i64 R'.e)
  simp only [List.set] at T6
  have HT6 := Go.Lib.hid T6
  clear T6 HC
  by_cases he : R'.e = 0
  case neg =>
    have heb : (R'.e != 0) = true := by simpa using he
    have HE := Go.Lib.hid he
    clear he
    go_wp2_with fail
    have T := HT6.out
    clear HT6 T5 p0 p1 n0 n1
    generalize ((w5.setCell ⟨w.heap.size + 1, 0, none⟩ (.string (ByteArray.mk R'.b.toArray))).setCell ⟨w.heap.size + 1, 1, none⟩ (.int .i64 R'.e)) = w6 at *
    refine NB.wp_region_t [2, 3] (by kernel_rfl) ?_
    have T9 := T.below (dB w6)
    clear T
    generalize w6.drew = w7 at *
    have a3 := T9.p3; have a4 := T9.p4; have a6 := T9.p6; have a7 := T9.p7; have B7 := T9.bel
    clear T9
    refine NB.t_r 0 [2, 3] rfl (by kernel_rfl) (by kernel_rfl) (by go_simp) _ (fun w' hw' => NB.run_op_load_agg (off := 0) (m := 11) rfl rfl Tryd.underlying36 rfl _ _ _ a3 (by kernel_rfl) (Nat.le_refl _) _ rfl hw') (fun K hK => ?_); go_simp; refine hK _ ?_; clear hK K
    have A6 := (((((((((((a6.set 0 (.int .i64 m.kind)).set 1 (.int .u64 (m.ballot : Int))).set 2 (.int .u64 (m.slot : Int))).set 3 (.int .i64 m.shard)).set 4 (.int .i64 m.seg)).set 5 (.int .u64 (m.client : Int))).set 6 (.int .u64 (m.seq : Int))).set 7 (.int .u64 (m.pos : Int))).set 8 (.int .i64 m.code)).set 9 (.slice av m.vec.length cv)).set 10 (.string (ByteArray.mk m.body.toArray)))
    simp only [List.set] at A6
    have A7 := (((((((((((a7.other (g' := w.heap.size + 2) (by omega) 0 (.int .i64 m.kind)).other (g' := w.heap.size + 2) (by omega) 1 (.int .u64 (m.ballot : Int))).other (g' := w.heap.size + 2) (by omega) 2 (.int .u64 (m.slot : Int))).other (g' := w.heap.size + 2) (by omega) 3 (.int .i64 m.shard)).other (g' := w.heap.size + 2) (by omega) 4 (.int .i64 m.seg)).other (g' := w.heap.size + 2) (by omega) 5 (.int .u64 (m.client : Int))).other (g' := w.heap.size + 2) (by omega) 6 (.int .u64 (m.seq : Int))).other (g' := w.heap.size + 2) (by omega) 7 (.int .u64 (m.pos : Int))).other (g' := w.heap.size + 2) (by omega) 8 (.int .i64 m.code)).other (g' := w.heap.size + 2) (by omega) 9 (.slice av m.vec.length cv)).other (g' := w.heap.size + 2) (by omega) 10 (.string (ByteArray.mk m.body.toArray)))
    have B8 : Below w.heap.size w (((((((((((w7.setCell ⟨w.heap.size + 2, 0, none⟩ (.int .i64 m.kind)).setCell ⟨w.heap.size + 2, 1, none⟩ (.int .u64 (m.ballot : Int))).setCell ⟨w.heap.size + 2, 2, none⟩ (.int .u64 (m.slot : Int))).setCell ⟨w.heap.size + 2, 3, none⟩ (.int .i64 m.shard)).setCell ⟨w.heap.size + 2, 4, none⟩ (.int .i64 m.seg)).setCell ⟨w.heap.size + 2, 5, none⟩ (.int .u64 (m.client : Int))).setCell ⟨w.heap.size + 2, 6, none⟩ (.int .u64 (m.seq : Int))).setCell ⟨w.heap.size + 2, 7, none⟩ (.int .u64 (m.pos : Int))).setCell ⟨w.heap.size + 2, 8, none⟩ (.int .i64 m.code)).setCell ⟨w.heap.size + 2, 9, none⟩ (.slice av m.vec.length cv)).setCell ⟨w.heap.size + 2, 10, none⟩ (.string (ByteArray.mk m.body.toArray))) := (((((((((((B7.setCell (p := ⟨w.heap.size + 2, 0, none⟩) (by simp) (.int .i64 m.kind)).setCell (p := ⟨w.heap.size + 2, 1, none⟩) (by simp) (.int .u64 (m.ballot : Int))).setCell (p := ⟨w.heap.size + 2, 2, none⟩) (by simp) (.int .u64 (m.slot : Int))).setCell (p := ⟨w.heap.size + 2, 3, none⟩) (by simp) (.int .i64 m.shard)).setCell (p := ⟨w.heap.size + 2, 4, none⟩) (by simp) (.int .i64 m.seg)).setCell (p := ⟨w.heap.size + 2, 5, none⟩) (by simp) (.int .u64 (m.client : Int))).setCell (p := ⟨w.heap.size + 2, 6, none⟩) (by simp) (.int .u64 (m.seq : Int))).setCell (p := ⟨w.heap.size + 2, 7, none⟩) (by simp) (.int .u64 (m.pos : Int))).setCell (p := ⟨w.heap.size + 2, 8, none⟩) (by simp) (.int .i64 m.code)).setCell (p := ⟨w.heap.size + 2, 9, none⟩) (by simp) (.slice av m.vec.length cv)).setCell (p := ⟨w.heap.size + 2, 10, none⟩) (by simp) (.string (ByteArray.mk m.body.toArray)))
    have HA6 := Go.Lib.hid A6; have HA7 := Go.Lib.hid A7; have HB8 := Go.Lib.hid B8
    clear A6 A7 B8 B7 a7
    have q0 := a6.cell 0 _ rfl
    have g0 := a6.free 0
    have q1 := a6.cell 1 _ rfl
    have g1 := a6.free 1
    have q2 := a6.cell 2 _ rfl
    have g2 := a6.free 2
    have q3 := a6.cell 3 _ rfl
    have g3 := a6.free 3
    have q4 := a6.cell 4 _ rfl
    have g4 := a6.free 4
    have q5 := a6.cell 5 _ rfl
    have g5 := a6.free 5
    have q6 := a6.cell 6 _ rfl
    have g6 := a6.free 6
    have q7 := a6.cell 7 _ rfl
    have g7 := a6.free 7
    have q8 := a6.cell 8 _ rfl
    have g8 := a6.free 8
    have q9 := a6.cell 9 _ rfl
    have g9 := a6.free 9
    have q10 := a6.cell 10 _ rfl
    have g10 := a6.free 10
    have A4 := (((((((((((a4.other (g' := w.heap.size + 2) (by omega) 0 (.int .i64 m.kind)).other (g' := w.heap.size + 2) (by omega) 1 (.int .u64 (m.ballot : Int))).other (g' := w.heap.size + 2) (by omega) 2 (.int .u64 (m.slot : Int))).other (g' := w.heap.size + 2) (by omega) 3 (.int .i64 m.shard)).other (g' := w.heap.size + 2) (by omega) 4 (.int .i64 m.seg)).other (g' := w.heap.size + 2) (by omega) 5 (.int .u64 (m.client : Int))).other (g' := w.heap.size + 2) (by omega) 6 (.int .u64 (m.seq : Int))).other (g' := w.heap.size + 2) (by omega) 7 (.int .u64 (m.pos : Int))).other (g' := w.heap.size + 2) (by omega) 8 (.int .i64 m.code)).other (g' := w.heap.size + 2) (by omega) 9 (.slice av m.vec.length cv)).other (g' := w.heap.size + 2) (by omega) 10 (.string (ByteArray.mk m.body.toArray)))
    have HA4 := Go.Lib.hid A4
    clear A4
    refine NB.t_rs 1 2 rfl rfl (by kernel_rfl) (by kernel_rfl) (by kernel_rfl) (by kernel_rfl) (by kernel_rfl) (by intro _ _ h; cases h) (by intro _ _ h; cases h) (by go_simp) _ (by go_simp) (NB.run_op_load_agg (off := 0) (m := 2) rfl rfl Tryd.underlying74 rfl _ _ _ a4 (by kernel_rfl) (Nat.le_refl _) _ rfl (Below.refl _ w7)) (fun Q' hK => ?_)
    go_wp2
    refine hK _ _ (NB.run_op_load_agg (off := 0) (m := 2) rfl rfl Tryd.underlying74 rfl _ _ _ HA4.out (by kernel_rfl) (Nat.le_refl _) _ rfl (Below.refl _ _)) ?_
    clear hK Q' HA4 q0 g0 q1 g1 q2 g2 q3 g3 q4 g4 q5 g5 q6 g6 q7 g7 q8 g8 q9 g9 q10 g10
    generalize (((((((((((w7.setCell ⟨w.heap.size + 2, 0, none⟩ (.int .i64 m.kind)).setCell ⟨w.heap.size + 2, 1, none⟩ (.int .u64 (m.ballot : Int))).setCell ⟨w.heap.size + 2, 2, none⟩ (.int .u64 (m.slot : Int))).setCell ⟨w.heap.size + 2, 3, none⟩ (.int .i64 m.shard)).setCell ⟨w.heap.size + 2, 4, none⟩ (.int .i64 m.seg)).setCell ⟨w.heap.size + 2, 5, none⟩ (.int .u64 (m.client : Int))).setCell ⟨w.heap.size + 2, 6, none⟩ (.int .u64 (m.seq : Int))).setCell ⟨w.heap.size + 2, 7, none⟩ (.int .u64 (m.pos : Int))).setCell ⟨w.heap.size + 2, 8, none⟩ (.int .i64 m.code)).setCell ⟨w.heap.size + 2, 9, none⟩ (.slice av m.vec.length cv)).setCell ⟨w.heap.size + 2, 10, none⟩ (.string (ByteArray.mk m.body.toArray))) = w8 at *
    have A7 := HA7.out
    have F6 := HA6.out.other (g' := w.heap.size + 3) (by omega) 0 (.string (ByteArray.mk R'.b.toArray))
    have F6 := F6.other (g' := w.heap.size + 3) (by omega) 1 (.int .i64 R'.e)
    have F7 := (A7.set 0 (.string (ByteArray.mk R'.b.toArray))).set 1 (.int .i64 R'.e)
    simp only [List.set] at F7
    have B9 := (HB8.out.setCell (p := ⟨w.heap.size + 3, 0, none⟩) (by simp) (.string (ByteArray.mk R'.b.toArray))).setCell (p := ⟨w.heap.size + 3, 1, none⟩) (by simp) (.int .i64 R'.e)
    have HF6 := Go.Lib.hid F6; have HF7 := Go.Lib.hid F7; have HB9 := Go.Lib.hid B9
    clear F6 F7 B9
    obtain ⟨q0, q1, g0, g1⟩ := NB.rw2 A7
    refine NB.t_w 3 rfl (by kernel_rfl) (by kernel_rfl) rfl (fun Q' hK => ?_)
    go_wp2
    clear q0 q1 g0 g1 A7 HA6 HA7 HB8
    generalize ((w8.setCell ⟨w.heap.size + 3, 0, none⟩ (.string (ByteArray.mk R'.b.toArray))).setCell ⟨w.heap.size + 3, 1, none⟩ (.int .i64 R'.e)) = w9 at *
    refine NB.t_end (by kernel_rfl) ?_
    go_wp2
    have F6 := HF6.out; have F7 := HF7.out
    have q0 := F6.cell 0 _ rfl
    have q1 := F6.cell 1 _ rfl
    have q2 := F6.cell 2 _ rfl
    have q3 := F6.cell 3 _ rfl
    have q4 := F6.cell 4 _ rfl
    have q5 := F6.cell 5 _ rfl
    have q6 := F6.cell 6 _ rfl
    have q7 := F6.cell 7 _ rfl
    have q8 := F6.cell 8 _ rfl
    have q9 := F6.cell 9 _ rfl
    have q10 := F6.cell 10 _ rfl
    have c0 := F7.cell 0 _ rfl
    have c1 := F7.cell 1 _ rfl
    have hlt := F7.lt
    have hlt6 := F6.lt
    refine bodyPost_ret (v := .tuple #[.agg #[.int .i64 m.kind, .int .u64 (m.ballot : Int), .int .u64 (m.slot : Int), .int .i64 m.shard, .int .i64 m.seg, .int .u64 (m.client : Int), .int .u64 (m.seq : Int), .int .u64 (m.pos : Int), .int .i64 m.code, .slice av m.vec.length cv, .string (ByteArray.mk m.body.toArray)], .agg #[.string (ByteArray.mk R'.b.toArray), .int .i64 R'.e]]) (by simp [results, Tryd.results30, go_sem, q0, q1, q2, q3, q4, q5, q6, q7, q8, q9, q10, c0, c1, hlt, hlt6]) rfl ?_
    exact take_mk R' (show (readF 0 m r).1 = R' from (show (r.uint).1 = R' by rw [HRX.out])) (by decide) m rfl HR.out HB9.out (fun h => absurd h HE.out)
  have heb : (R'.e != 0) = false := by simpa using he
  have HE := Go.Lib.hid he
  clear he
  have T7 := HT6.out.setM 1 (.int .u64 (x : Int))
  have d := T5.p3.cell 1 _ rfl
  have fd := T5.p3.free 1
  have HT7 := Go.Lib.hid T7
  clear HT6 T7
  go_wp2_with fail
  have T := HT7.out
  clear HT7 T5 p0 p1 n0 n1 d fd
  generalize ((w5.setCell ⟨w.heap.size + 1, 0, none⟩ (.string (ByteArray.mk R'.b.toArray))).setCell ⟨w.heap.size + 1, 1, none⟩ (.int .i64 R'.e)).setCell ⟨w.heap.size, 1, none⟩ (.int .u64 (x : Int)) = w6 at *
  simp only [List.set] at T
  refine NB.wp_region_t [2, 3] (by kernel_rfl) ?_
  have T9 := T.below (dB w6)
  clear T
  generalize w6.drew = w7 at *
  have a3 := T9.p3; have a4 := T9.p4; have a6 := T9.p6; have a7 := T9.p7; have B7 := T9.bel
  clear T9
  refine NB.t_r 0 [2, 3] rfl (by kernel_rfl) (by kernel_rfl) (by go_simp) _ (fun w' hw' => NB.run_op_load_agg (off := 0) (m := 11) rfl rfl Tryd.underlying36 rfl _ _ _ a3 (by kernel_rfl) (Nat.le_refl _) _ rfl hw') (fun K hK => ?_); go_simp; refine hK _ ?_; clear hK K
  have A6 := (((((((((((a6.set 0 (.int .i64 m.kind)).set 1 (.int .u64 (x : Int))).set 2 (.int .u64 (m.slot : Int))).set 3 (.int .i64 m.shard)).set 4 (.int .i64 m.seg)).set 5 (.int .u64 (m.client : Int))).set 6 (.int .u64 (m.seq : Int))).set 7 (.int .u64 (m.pos : Int))).set 8 (.int .i64 m.code)).set 9 (.slice av m.vec.length cv)).set 10 (.string (ByteArray.mk m.body.toArray)))
  simp only [List.set] at A6
  have A7 := (((((((((((a7.other (g' := w.heap.size + 2) (by omega) 0 (.int .i64 m.kind)).other (g' := w.heap.size + 2) (by omega) 1 (.int .u64 (x : Int))).other (g' := w.heap.size + 2) (by omega) 2 (.int .u64 (m.slot : Int))).other (g' := w.heap.size + 2) (by omega) 3 (.int .i64 m.shard)).other (g' := w.heap.size + 2) (by omega) 4 (.int .i64 m.seg)).other (g' := w.heap.size + 2) (by omega) 5 (.int .u64 (m.client : Int))).other (g' := w.heap.size + 2) (by omega) 6 (.int .u64 (m.seq : Int))).other (g' := w.heap.size + 2) (by omega) 7 (.int .u64 (m.pos : Int))).other (g' := w.heap.size + 2) (by omega) 8 (.int .i64 m.code)).other (g' := w.heap.size + 2) (by omega) 9 (.slice av m.vec.length cv)).other (g' := w.heap.size + 2) (by omega) 10 (.string (ByteArray.mk m.body.toArray)))
  have B8 : Below w.heap.size w (((((((((((w7.setCell ⟨w.heap.size + 2, 0, none⟩ (.int .i64 m.kind)).setCell ⟨w.heap.size + 2, 1, none⟩ (.int .u64 (x : Int))).setCell ⟨w.heap.size + 2, 2, none⟩ (.int .u64 (m.slot : Int))).setCell ⟨w.heap.size + 2, 3, none⟩ (.int .i64 m.shard)).setCell ⟨w.heap.size + 2, 4, none⟩ (.int .i64 m.seg)).setCell ⟨w.heap.size + 2, 5, none⟩ (.int .u64 (m.client : Int))).setCell ⟨w.heap.size + 2, 6, none⟩ (.int .u64 (m.seq : Int))).setCell ⟨w.heap.size + 2, 7, none⟩ (.int .u64 (m.pos : Int))).setCell ⟨w.heap.size + 2, 8, none⟩ (.int .i64 m.code)).setCell ⟨w.heap.size + 2, 9, none⟩ (.slice av m.vec.length cv)).setCell ⟨w.heap.size + 2, 10, none⟩ (.string (ByteArray.mk m.body.toArray))) := (((((((((((B7.setCell (p := ⟨w.heap.size + 2, 0, none⟩) (by simp) (.int .i64 m.kind)).setCell (p := ⟨w.heap.size + 2, 1, none⟩) (by simp) (.int .u64 (x : Int))).setCell (p := ⟨w.heap.size + 2, 2, none⟩) (by simp) (.int .u64 (m.slot : Int))).setCell (p := ⟨w.heap.size + 2, 3, none⟩) (by simp) (.int .i64 m.shard)).setCell (p := ⟨w.heap.size + 2, 4, none⟩) (by simp) (.int .i64 m.seg)).setCell (p := ⟨w.heap.size + 2, 5, none⟩) (by simp) (.int .u64 (m.client : Int))).setCell (p := ⟨w.heap.size + 2, 6, none⟩) (by simp) (.int .u64 (m.seq : Int))).setCell (p := ⟨w.heap.size + 2, 7, none⟩) (by simp) (.int .u64 (m.pos : Int))).setCell (p := ⟨w.heap.size + 2, 8, none⟩) (by simp) (.int .i64 m.code)).setCell (p := ⟨w.heap.size + 2, 9, none⟩) (by simp) (.slice av m.vec.length cv)).setCell (p := ⟨w.heap.size + 2, 10, none⟩) (by simp) (.string (ByteArray.mk m.body.toArray)))
  have HA6 := Go.Lib.hid A6; have HA7 := Go.Lib.hid A7; have HB8 := Go.Lib.hid B8
  clear A6 A7 B8 B7 a7
  have q0 := a6.cell 0 _ rfl
  have g0 := a6.free 0
  have q1 := a6.cell 1 _ rfl
  have g1 := a6.free 1
  have q2 := a6.cell 2 _ rfl
  have g2 := a6.free 2
  have q3 := a6.cell 3 _ rfl
  have g3 := a6.free 3
  have q4 := a6.cell 4 _ rfl
  have g4 := a6.free 4
  have q5 := a6.cell 5 _ rfl
  have g5 := a6.free 5
  have q6 := a6.cell 6 _ rfl
  have g6 := a6.free 6
  have q7 := a6.cell 7 _ rfl
  have g7 := a6.free 7
  have q8 := a6.cell 8 _ rfl
  have g8 := a6.free 8
  have q9 := a6.cell 9 _ rfl
  have g9 := a6.free 9
  have q10 := a6.cell 10 _ rfl
  have g10 := a6.free 10
  have A4 := (((((((((((a4.other (g' := w.heap.size + 2) (by omega) 0 (.int .i64 m.kind)).other (g' := w.heap.size + 2) (by omega) 1 (.int .u64 (x : Int))).other (g' := w.heap.size + 2) (by omega) 2 (.int .u64 (m.slot : Int))).other (g' := w.heap.size + 2) (by omega) 3 (.int .i64 m.shard)).other (g' := w.heap.size + 2) (by omega) 4 (.int .i64 m.seg)).other (g' := w.heap.size + 2) (by omega) 5 (.int .u64 (m.client : Int))).other (g' := w.heap.size + 2) (by omega) 6 (.int .u64 (m.seq : Int))).other (g' := w.heap.size + 2) (by omega) 7 (.int .u64 (m.pos : Int))).other (g' := w.heap.size + 2) (by omega) 8 (.int .i64 m.code)).other (g' := w.heap.size + 2) (by omega) 9 (.slice av m.vec.length cv)).other (g' := w.heap.size + 2) (by omega) 10 (.string (ByteArray.mk m.body.toArray)))
  have HA4 := Go.Lib.hid A4
  clear A4
  refine NB.t_rs 1 2 rfl rfl (by kernel_rfl) (by kernel_rfl) (by kernel_rfl) (by kernel_rfl) (by kernel_rfl) (by intro _ _ h; cases h) (by intro _ _ h; cases h) (by go_simp) _ (by go_simp) (NB.run_op_load_agg (off := 0) (m := 2) rfl rfl Tryd.underlying74 rfl _ _ _ a4 (by kernel_rfl) (Nat.le_refl _) _ rfl (Below.refl _ w7)) (fun Q' hK => ?_)
  go_wp2
  refine hK _ _ (NB.run_op_load_agg (off := 0) (m := 2) rfl rfl Tryd.underlying74 rfl _ _ _ HA4.out (by kernel_rfl) (Nat.le_refl _) _ rfl (Below.refl _ _)) ?_
  clear hK Q' HA4 q0 g0 q1 g1 q2 g2 q3 g3 q4 g4 q5 g5 q6 g6 q7 g7 q8 g8 q9 g9 q10 g10
  generalize (((((((((((w7.setCell ⟨w.heap.size + 2, 0, none⟩ (.int .i64 m.kind)).setCell ⟨w.heap.size + 2, 1, none⟩ (.int .u64 (x : Int))).setCell ⟨w.heap.size + 2, 2, none⟩ (.int .u64 (m.slot : Int))).setCell ⟨w.heap.size + 2, 3, none⟩ (.int .i64 m.shard)).setCell ⟨w.heap.size + 2, 4, none⟩ (.int .i64 m.seg)).setCell ⟨w.heap.size + 2, 5, none⟩ (.int .u64 (m.client : Int))).setCell ⟨w.heap.size + 2, 6, none⟩ (.int .u64 (m.seq : Int))).setCell ⟨w.heap.size + 2, 7, none⟩ (.int .u64 (m.pos : Int))).setCell ⟨w.heap.size + 2, 8, none⟩ (.int .i64 m.code)).setCell ⟨w.heap.size + 2, 9, none⟩ (.slice av m.vec.length cv)).setCell ⟨w.heap.size + 2, 10, none⟩ (.string (ByteArray.mk m.body.toArray))) = w8 at *
  have A7 := HA7.out
  have F6 := HA6.out.other (g' := w.heap.size + 3) (by omega) 0 (.string (ByteArray.mk R'.b.toArray))
  have F6 := F6.other (g' := w.heap.size + 3) (by omega) 1 (.int .i64 R'.e)
  have F7 := (A7.set 0 (.string (ByteArray.mk R'.b.toArray))).set 1 (.int .i64 R'.e)
  simp only [List.set] at F7
  have B9 := (HB8.out.setCell (p := ⟨w.heap.size + 3, 0, none⟩) (by simp) (.string (ByteArray.mk R'.b.toArray))).setCell (p := ⟨w.heap.size + 3, 1, none⟩) (by simp) (.int .i64 R'.e)
  have HF6 := Go.Lib.hid F6; have HF7 := Go.Lib.hid F7; have HB9 := Go.Lib.hid B9
  clear F6 F7 B9
  obtain ⟨q0, q1, g0, g1⟩ := NB.rw2 A7
  refine NB.t_w 3 rfl (by kernel_rfl) (by kernel_rfl) rfl (fun Q' hK => ?_)
  go_wp2
  clear q0 q1 g0 g1 A7 HA6 HA7 HB8
  generalize ((w8.setCell ⟨w.heap.size + 3, 0, none⟩ (.string (ByteArray.mk R'.b.toArray))).setCell ⟨w.heap.size + 3, 1, none⟩ (.int .i64 R'.e)) = w9 at *
  refine NB.t_end (by kernel_rfl) ?_
  go_wp2
  have F6 := HF6.out; have F7 := HF7.out
  have q0 := F6.cell 0 _ rfl
  have q1 := F6.cell 1 _ rfl
  have q2 := F6.cell 2 _ rfl
  have q3 := F6.cell 3 _ rfl
  have q4 := F6.cell 4 _ rfl
  have q5 := F6.cell 5 _ rfl
  have q6 := F6.cell 6 _ rfl
  have q7 := F6.cell 7 _ rfl
  have q8 := F6.cell 8 _ rfl
  have q9 := F6.cell 9 _ rfl
  have q10 := F6.cell 10 _ rfl
  have c0 := F7.cell 0 _ rfl
  have c1 := F7.cell 1 _ rfl
  have hlt := F7.lt
  have hlt6 := F6.lt
  refine bodyPost_ret (v := .tuple #[.agg #[.int .i64 m.kind, .int .u64 (x : Int), .int .u64 (m.slot : Int), .int .i64 m.shard, .int .i64 m.seg, .int .u64 (m.client : Int), .int .u64 (m.seq : Int), .int .u64 (m.pos : Int), .int .i64 m.code, .slice av m.vec.length cv, .string (ByteArray.mk m.body.toArray)], .agg #[.string (ByteArray.mk R'.b.toArray), .int .i64 R'.e]]) (by simp [results, Tryd.results30, go_sem, q0, q1, q2, q3, q4, q5, q6, q7, q8, q9, q10, c0, c1, hlt, hlt6]) rfl ?_
  exact take_mk R' (show (readF 0 m r).1 = R' from (show (r.uint).1 = R' by rw [HRX.out])) (by decide) { m with ballot := x } rfl HR.out HB9.out (fun _ => by show _ = { m with ballot := (r.uint).2 }; rw [HRX.out])

set_option maxRecDepth 100000 in
set_option maxHeartbeats 8000000 in
theorem take_1 (w : World) (m : Mm) (av : Option Addr) (cv : Nat) (r : Rr) (hR : RdU w av m.vec.length cv m.vec) (hl : r.b.length ≤ 100000000) :
    Calls Tryd.prog 30 #[.agg #[.int .i64 m.kind, .int .u64 (m.ballot : Int), .int .u64 (m.slot : Int), .int .i64 m.shard, .int .i64 m.seg, .int .u64 (m.client : Int), .int .u64 (m.seq : Int), .int .u64 (m.pos : Int), .int .i64 m.code, .slice av m.vec.length cv, .string (ByteArray.mk m.body.toArray)], .agg #[.string (ByteArray.mk r.b.toArray), .int .i64 r.e], .int .u8 115] w (TakeE w 1 m av cv r) := by
  have ctr := fun w => refRead_any w r hl
  unfold refR RefRU at ctr
  obtain ⟨R', x, hrx⟩ : ∃ R' x, r.uint = (R', x) := ⟨_, _, rfl⟩
  rw [hrx] at ctr
  simp only at ctr
  have HC := Go.Lib.hid ctr; have HRX := Go.Lib.hid hrx
  clear ctr hrx
  have T0 := TK.start w (.int .i64 m.kind) (.int .u64 (m.ballot : Int)) (.int .u64 (m.slot : Int)) (.int .i64 m.shard) (.int .i64 m.seg) (.int .u64 (m.client : Int)) (.int .u64 (m.seq : Int)) (.int .u64 (m.pos : Int)) (.int .i64 m.code) (.slice av m.vec.length cv) (.string (ByteArray.mk m.body.toArray)) (.string (ByteArray.mk r.b.toArray)) (.int .i64 r.e)
  have HR := Go.Lib.hid hR
  clear hR
  go_enter Tryd.func30, Tryd.ntmps30
  go_wp2_with fail
  generalize ((((w.alloc (.cells #[.int .i64 m.kind, .int .u64 (m.ballot : Int), .int .u64 (m.slot : Int), .int .i64 m.shard, .int .i64 m.seg, .int .u64 (m.client : Int), .int .u64 (m.seq : Int), .int .u64 (m.pos : Int), .int .i64 m.code, .slice av m.vec.length cv, .string (ByteArray.mk m.body.toArray)] 36)).alloc (.cells #[.string (ByteArray.mk r.b.toArray), .int .i64 r.e] 74)).alloc (.cells #[.int .i64 0, .int .u64 0, .int .u64 0, .int .i64 0, .int .i64 0, .int .u64 0, .int .u64 0, .int .u64 0, .int .i64 0, .slice none 0 0, .string (ByteArray.mk #[])] 36)).alloc (.cells #[.string (ByteArray.mk #[]), .int .i64 0] 74)) = w4 at *
  refine (HC.out _).mono ?_
  rintro e w5 ⟨rfl, hb5⟩
  have T5 := T0.below hb5
  clear T0 hb5
  obtain ⟨p0, p1, n0, n1⟩ := NB.rw2 T5.p4
  have T6 := (T5.setR 0 (.string (ByteArray.mk R'.b.toArray))).setR 1 (.int .i64 R'.e)
  simp only [List.set] at T6
  have HT6 := Go.Lib.hid T6
  clear T6 HC
  by_cases he : R'.e = 0
  case neg =>
    have heb : (R'.e != 0) = true := by simpa using he
    have HE := Go.Lib.hid he
    clear he
    go_wp2_with fail
    have T := HT6.out
    clear HT6 T5 p0 p1 n0 n1
    generalize ((w5.setCell ⟨w.heap.size + 1, 0, none⟩ (.string (ByteArray.mk R'.b.toArray))).setCell ⟨w.heap.size + 1, 1, none⟩ (.int .i64 R'.e)) = w6 at *
    refine NB.wp_region_t [2, 3] (by kernel_rfl) ?_
    have T9 := T.below (dB w6)
    clear T
    generalize w6.drew = w7 at *
    have a3 := T9.p3; have a4 := T9.p4; have a6 := T9.p6; have a7 := T9.p7; have B7 := T9.bel
    clear T9
    refine NB.t_r 0 [2, 3] rfl (by kernel_rfl) (by kernel_rfl) (by go_simp) _ (fun w' hw' => NB.run_op_load_agg (off := 0) (m := 11) rfl rfl Tryd.underlying36 rfl _ _ _ a3 (by kernel_rfl) (Nat.le_refl _) _ rfl hw') (fun K hK => ?_); go_simp; refine hK _ ?_; clear hK K
    have A6 := (((((((((((a6.set 0 (.int .i64 m.kind)).set 1 (.int .u64 (m.ballot : Int))).set 2 (.int .u64 (m.slot : Int))).set 3 (.int .i64 m.shard)).set 4 (.int .i64 m.seg)).set 5 (.int .u64 (m.client : Int))).set 6 (.int .u64 (m.seq : Int))).set 7 (.int .u64 (m.pos : Int))).set 8 (.int .i64 m.code)).set 9 (.slice av m.vec.length cv)).set 10 (.string (ByteArray.mk m.body.toArray)))
    simp only [List.set] at A6
    have A7 := (((((((((((a7.other (g' := w.heap.size + 2) (by omega) 0 (.int .i64 m.kind)).other (g' := w.heap.size + 2) (by omega) 1 (.int .u64 (m.ballot : Int))).other (g' := w.heap.size + 2) (by omega) 2 (.int .u64 (m.slot : Int))).other (g' := w.heap.size + 2) (by omega) 3 (.int .i64 m.shard)).other (g' := w.heap.size + 2) (by omega) 4 (.int .i64 m.seg)).other (g' := w.heap.size + 2) (by omega) 5 (.int .u64 (m.client : Int))).other (g' := w.heap.size + 2) (by omega) 6 (.int .u64 (m.seq : Int))).other (g' := w.heap.size + 2) (by omega) 7 (.int .u64 (m.pos : Int))).other (g' := w.heap.size + 2) (by omega) 8 (.int .i64 m.code)).other (g' := w.heap.size + 2) (by omega) 9 (.slice av m.vec.length cv)).other (g' := w.heap.size + 2) (by omega) 10 (.string (ByteArray.mk m.body.toArray)))
    have B8 : Below w.heap.size w (((((((((((w7.setCell ⟨w.heap.size + 2, 0, none⟩ (.int .i64 m.kind)).setCell ⟨w.heap.size + 2, 1, none⟩ (.int .u64 (m.ballot : Int))).setCell ⟨w.heap.size + 2, 2, none⟩ (.int .u64 (m.slot : Int))).setCell ⟨w.heap.size + 2, 3, none⟩ (.int .i64 m.shard)).setCell ⟨w.heap.size + 2, 4, none⟩ (.int .i64 m.seg)).setCell ⟨w.heap.size + 2, 5, none⟩ (.int .u64 (m.client : Int))).setCell ⟨w.heap.size + 2, 6, none⟩ (.int .u64 (m.seq : Int))).setCell ⟨w.heap.size + 2, 7, none⟩ (.int .u64 (m.pos : Int))).setCell ⟨w.heap.size + 2, 8, none⟩ (.int .i64 m.code)).setCell ⟨w.heap.size + 2, 9, none⟩ (.slice av m.vec.length cv)).setCell ⟨w.heap.size + 2, 10, none⟩ (.string (ByteArray.mk m.body.toArray))) := (((((((((((B7.setCell (p := ⟨w.heap.size + 2, 0, none⟩) (by simp) (.int .i64 m.kind)).setCell (p := ⟨w.heap.size + 2, 1, none⟩) (by simp) (.int .u64 (m.ballot : Int))).setCell (p := ⟨w.heap.size + 2, 2, none⟩) (by simp) (.int .u64 (m.slot : Int))).setCell (p := ⟨w.heap.size + 2, 3, none⟩) (by simp) (.int .i64 m.shard)).setCell (p := ⟨w.heap.size + 2, 4, none⟩) (by simp) (.int .i64 m.seg)).setCell (p := ⟨w.heap.size + 2, 5, none⟩) (by simp) (.int .u64 (m.client : Int))).setCell (p := ⟨w.heap.size + 2, 6, none⟩) (by simp) (.int .u64 (m.seq : Int))).setCell (p := ⟨w.heap.size + 2, 7, none⟩) (by simp) (.int .u64 (m.pos : Int))).setCell (p := ⟨w.heap.size + 2, 8, none⟩) (by simp) (.int .i64 m.code)).setCell (p := ⟨w.heap.size + 2, 9, none⟩) (by simp) (.slice av m.vec.length cv)).setCell (p := ⟨w.heap.size + 2, 10, none⟩) (by simp) (.string (ByteArray.mk m.body.toArray)))
    have HA6 := Go.Lib.hid A6; have HA7 := Go.Lib.hid A7; have HB8 := Go.Lib.hid B8
    clear A6 A7 B8 B7 a7
    have q0 := a6.cell 0 _ rfl
    have g0 := a6.free 0
    have q1 := a6.cell 1 _ rfl
    have g1 := a6.free 1
    have q2 := a6.cell 2 _ rfl
    have g2 := a6.free 2
    have q3 := a6.cell 3 _ rfl
    have g3 := a6.free 3
    have q4 := a6.cell 4 _ rfl
    have g4 := a6.free 4
    have q5 := a6.cell 5 _ rfl
    have g5 := a6.free 5
    have q6 := a6.cell 6 _ rfl
    have g6 := a6.free 6
    have q7 := a6.cell 7 _ rfl
    have g7 := a6.free 7
    have q8 := a6.cell 8 _ rfl
    have g8 := a6.free 8
    have q9 := a6.cell 9 _ rfl
    have g9 := a6.free 9
    have q10 := a6.cell 10 _ rfl
    have g10 := a6.free 10
    have A4 := (((((((((((a4.other (g' := w.heap.size + 2) (by omega) 0 (.int .i64 m.kind)).other (g' := w.heap.size + 2) (by omega) 1 (.int .u64 (m.ballot : Int))).other (g' := w.heap.size + 2) (by omega) 2 (.int .u64 (m.slot : Int))).other (g' := w.heap.size + 2) (by omega) 3 (.int .i64 m.shard)).other (g' := w.heap.size + 2) (by omega) 4 (.int .i64 m.seg)).other (g' := w.heap.size + 2) (by omega) 5 (.int .u64 (m.client : Int))).other (g' := w.heap.size + 2) (by omega) 6 (.int .u64 (m.seq : Int))).other (g' := w.heap.size + 2) (by omega) 7 (.int .u64 (m.pos : Int))).other (g' := w.heap.size + 2) (by omega) 8 (.int .i64 m.code)).other (g' := w.heap.size + 2) (by omega) 9 (.slice av m.vec.length cv)).other (g' := w.heap.size + 2) (by omega) 10 (.string (ByteArray.mk m.body.toArray)))
    have HA4 := Go.Lib.hid A4
    clear A4
    refine NB.t_rs 1 2 rfl rfl (by kernel_rfl) (by kernel_rfl) (by kernel_rfl) (by kernel_rfl) (by kernel_rfl) (by intro _ _ h; cases h) (by intro _ _ h; cases h) (by go_simp) _ (by go_simp) (NB.run_op_load_agg (off := 0) (m := 2) rfl rfl Tryd.underlying74 rfl _ _ _ a4 (by kernel_rfl) (Nat.le_refl _) _ rfl (Below.refl _ w7)) (fun Q' hK => ?_)
    go_wp2
    refine hK _ _ (NB.run_op_load_agg (off := 0) (m := 2) rfl rfl Tryd.underlying74 rfl _ _ _ HA4.out (by kernel_rfl) (Nat.le_refl _) _ rfl (Below.refl _ _)) ?_
    clear hK Q' HA4 q0 g0 q1 g1 q2 g2 q3 g3 q4 g4 q5 g5 q6 g6 q7 g7 q8 g8 q9 g9 q10 g10
    generalize (((((((((((w7.setCell ⟨w.heap.size + 2, 0, none⟩ (.int .i64 m.kind)).setCell ⟨w.heap.size + 2, 1, none⟩ (.int .u64 (m.ballot : Int))).setCell ⟨w.heap.size + 2, 2, none⟩ (.int .u64 (m.slot : Int))).setCell ⟨w.heap.size + 2, 3, none⟩ (.int .i64 m.shard)).setCell ⟨w.heap.size + 2, 4, none⟩ (.int .i64 m.seg)).setCell ⟨w.heap.size + 2, 5, none⟩ (.int .u64 (m.client : Int))).setCell ⟨w.heap.size + 2, 6, none⟩ (.int .u64 (m.seq : Int))).setCell ⟨w.heap.size + 2, 7, none⟩ (.int .u64 (m.pos : Int))).setCell ⟨w.heap.size + 2, 8, none⟩ (.int .i64 m.code)).setCell ⟨w.heap.size + 2, 9, none⟩ (.slice av m.vec.length cv)).setCell ⟨w.heap.size + 2, 10, none⟩ (.string (ByteArray.mk m.body.toArray))) = w8 at *
    have A7 := HA7.out
    have F6 := HA6.out.other (g' := w.heap.size + 3) (by omega) 0 (.string (ByteArray.mk R'.b.toArray))
    have F6 := F6.other (g' := w.heap.size + 3) (by omega) 1 (.int .i64 R'.e)
    have F7 := (A7.set 0 (.string (ByteArray.mk R'.b.toArray))).set 1 (.int .i64 R'.e)
    simp only [List.set] at F7
    have B9 := (HB8.out.setCell (p := ⟨w.heap.size + 3, 0, none⟩) (by simp) (.string (ByteArray.mk R'.b.toArray))).setCell (p := ⟨w.heap.size + 3, 1, none⟩) (by simp) (.int .i64 R'.e)
    have HF6 := Go.Lib.hid F6; have HF7 := Go.Lib.hid F7; have HB9 := Go.Lib.hid B9
    clear F6 F7 B9
    obtain ⟨q0, q1, g0, g1⟩ := NB.rw2 A7
    refine NB.t_w 3 rfl (by kernel_rfl) (by kernel_rfl) rfl (fun Q' hK => ?_)
    go_wp2
    clear q0 q1 g0 g1 A7 HA6 HA7 HB8
    generalize ((w8.setCell ⟨w.heap.size + 3, 0, none⟩ (.string (ByteArray.mk R'.b.toArray))).setCell ⟨w.heap.size + 3, 1, none⟩ (.int .i64 R'.e)) = w9 at *
    refine NB.t_end (by kernel_rfl) ?_
    go_wp2
    have F6 := HF6.out; have F7 := HF7.out
    have q0 := F6.cell 0 _ rfl
    have q1 := F6.cell 1 _ rfl
    have q2 := F6.cell 2 _ rfl
    have q3 := F6.cell 3 _ rfl
    have q4 := F6.cell 4 _ rfl
    have q5 := F6.cell 5 _ rfl
    have q6 := F6.cell 6 _ rfl
    have q7 := F6.cell 7 _ rfl
    have q8 := F6.cell 8 _ rfl
    have q9 := F6.cell 9 _ rfl
    have q10 := F6.cell 10 _ rfl
    have c0 := F7.cell 0 _ rfl
    have c1 := F7.cell 1 _ rfl
    have hlt := F7.lt
    have hlt6 := F6.lt
    refine bodyPost_ret (v := .tuple #[.agg #[.int .i64 m.kind, .int .u64 (m.ballot : Int), .int .u64 (m.slot : Int), .int .i64 m.shard, .int .i64 m.seg, .int .u64 (m.client : Int), .int .u64 (m.seq : Int), .int .u64 (m.pos : Int), .int .i64 m.code, .slice av m.vec.length cv, .string (ByteArray.mk m.body.toArray)], .agg #[.string (ByteArray.mk R'.b.toArray), .int .i64 R'.e]]) (by simp [results, Tryd.results30, go_sem, q0, q1, q2, q3, q4, q5, q6, q7, q8, q9, q10, c0, c1, hlt, hlt6]) rfl ?_
    exact take_mk R' (show (readF 1 m r).1 = R' from (show (r.uint).1 = R' by rw [HRX.out])) (by decide) m rfl HR.out HB9.out (fun h => absurd h HE.out)
  have heb : (R'.e != 0) = false := by simpa using he
  have HE := Go.Lib.hid he
  clear he
  have T7 := HT6.out.setM 2 (.int .u64 (x : Int))
  have d := T5.p3.cell 2 _ rfl
  have fd := T5.p3.free 2
  have HT7 := Go.Lib.hid T7
  clear HT6 T7
  go_wp2_with fail
  have T := HT7.out
  clear HT7 T5 p0 p1 n0 n1 d fd
  generalize ((w5.setCell ⟨w.heap.size + 1, 0, none⟩ (.string (ByteArray.mk R'.b.toArray))).setCell ⟨w.heap.size + 1, 1, none⟩ (.int .i64 R'.e)).setCell ⟨w.heap.size, 2, none⟩ (.int .u64 (x : Int)) = w6 at *
  simp only [List.set] at T
  refine NB.wp_region_t [2, 3] (by kernel_rfl) ?_
  have T9 := T.below (dB w6)
  clear T
  generalize w6.drew = w7 at *
  have a3 := T9.p3; have a4 := T9.p4; have a6 := T9.p6; have a7 := T9.p7; have B7 := T9.bel
  clear T9
  refine NB.t_r 0 [2, 3] rfl (by kernel_rfl) (by kernel_rfl) (by go_simp) _ (fun w' hw' => NB.run_op_load_agg (off := 0) (m := 11) rfl rfl Tryd.underlying36 rfl _ _ _ a3 (by kernel_rfl) (Nat.le_refl _) _ rfl hw') (fun K hK => ?_); go_simp; refine hK _ ?_; clear hK K
  have A6 := (((((((((((a6.set 0 (.int .i64 m.kind)).set 1 (.int .u64 (m.ballot : Int))).set 2 (.int .u64 (x : Int))).set 3 (.int .i64 m.shard)).set 4 (.int .i64 m.seg)).set 5 (.int .u64 (m.client : Int))).set 6 (.int .u64 (m.seq : Int))).set 7 (.int .u64 (m.pos : Int))).set 8 (.int .i64 m.code)).set 9 (.slice av m.vec.length cv)).set 10 (.string (ByteArray.mk m.body.toArray)))
  simp only [List.set] at A6
  have A7 := (((((((((((a7.other (g' := w.heap.size + 2) (by omega) 0 (.int .i64 m.kind)).other (g' := w.heap.size + 2) (by omega) 1 (.int .u64 (m.ballot : Int))).other (g' := w.heap.size + 2) (by omega) 2 (.int .u64 (x : Int))).other (g' := w.heap.size + 2) (by omega) 3 (.int .i64 m.shard)).other (g' := w.heap.size + 2) (by omega) 4 (.int .i64 m.seg)).other (g' := w.heap.size + 2) (by omega) 5 (.int .u64 (m.client : Int))).other (g' := w.heap.size + 2) (by omega) 6 (.int .u64 (m.seq : Int))).other (g' := w.heap.size + 2) (by omega) 7 (.int .u64 (m.pos : Int))).other (g' := w.heap.size + 2) (by omega) 8 (.int .i64 m.code)).other (g' := w.heap.size + 2) (by omega) 9 (.slice av m.vec.length cv)).other (g' := w.heap.size + 2) (by omega) 10 (.string (ByteArray.mk m.body.toArray)))
  have B8 : Below w.heap.size w (((((((((((w7.setCell ⟨w.heap.size + 2, 0, none⟩ (.int .i64 m.kind)).setCell ⟨w.heap.size + 2, 1, none⟩ (.int .u64 (m.ballot : Int))).setCell ⟨w.heap.size + 2, 2, none⟩ (.int .u64 (x : Int))).setCell ⟨w.heap.size + 2, 3, none⟩ (.int .i64 m.shard)).setCell ⟨w.heap.size + 2, 4, none⟩ (.int .i64 m.seg)).setCell ⟨w.heap.size + 2, 5, none⟩ (.int .u64 (m.client : Int))).setCell ⟨w.heap.size + 2, 6, none⟩ (.int .u64 (m.seq : Int))).setCell ⟨w.heap.size + 2, 7, none⟩ (.int .u64 (m.pos : Int))).setCell ⟨w.heap.size + 2, 8, none⟩ (.int .i64 m.code)).setCell ⟨w.heap.size + 2, 9, none⟩ (.slice av m.vec.length cv)).setCell ⟨w.heap.size + 2, 10, none⟩ (.string (ByteArray.mk m.body.toArray))) := (((((((((((B7.setCell (p := ⟨w.heap.size + 2, 0, none⟩) (by simp) (.int .i64 m.kind)).setCell (p := ⟨w.heap.size + 2, 1, none⟩) (by simp) (.int .u64 (m.ballot : Int))).setCell (p := ⟨w.heap.size + 2, 2, none⟩) (by simp) (.int .u64 (x : Int))).setCell (p := ⟨w.heap.size + 2, 3, none⟩) (by simp) (.int .i64 m.shard)).setCell (p := ⟨w.heap.size + 2, 4, none⟩) (by simp) (.int .i64 m.seg)).setCell (p := ⟨w.heap.size + 2, 5, none⟩) (by simp) (.int .u64 (m.client : Int))).setCell (p := ⟨w.heap.size + 2, 6, none⟩) (by simp) (.int .u64 (m.seq : Int))).setCell (p := ⟨w.heap.size + 2, 7, none⟩) (by simp) (.int .u64 (m.pos : Int))).setCell (p := ⟨w.heap.size + 2, 8, none⟩) (by simp) (.int .i64 m.code)).setCell (p := ⟨w.heap.size + 2, 9, none⟩) (by simp) (.slice av m.vec.length cv)).setCell (p := ⟨w.heap.size + 2, 10, none⟩) (by simp) (.string (ByteArray.mk m.body.toArray)))
  have HA6 := Go.Lib.hid A6; have HA7 := Go.Lib.hid A7; have HB8 := Go.Lib.hid B8
  clear A6 A7 B8 B7 a7
  have q0 := a6.cell 0 _ rfl
  have g0 := a6.free 0
  have q1 := a6.cell 1 _ rfl
  have g1 := a6.free 1
  have q2 := a6.cell 2 _ rfl
  have g2 := a6.free 2
  have q3 := a6.cell 3 _ rfl
  have g3 := a6.free 3
  have q4 := a6.cell 4 _ rfl
  have g4 := a6.free 4
  have q5 := a6.cell 5 _ rfl
  have g5 := a6.free 5
  have q6 := a6.cell 6 _ rfl
  have g6 := a6.free 6
  have q7 := a6.cell 7 _ rfl
  have g7 := a6.free 7
  have q8 := a6.cell 8 _ rfl
  have g8 := a6.free 8
  have q9 := a6.cell 9 _ rfl
  have g9 := a6.free 9
  have q10 := a6.cell 10 _ rfl
  have g10 := a6.free 10
  have A4 := (((((((((((a4.other (g' := w.heap.size + 2) (by omega) 0 (.int .i64 m.kind)).other (g' := w.heap.size + 2) (by omega) 1 (.int .u64 (m.ballot : Int))).other (g' := w.heap.size + 2) (by omega) 2 (.int .u64 (x : Int))).other (g' := w.heap.size + 2) (by omega) 3 (.int .i64 m.shard)).other (g' := w.heap.size + 2) (by omega) 4 (.int .i64 m.seg)).other (g' := w.heap.size + 2) (by omega) 5 (.int .u64 (m.client : Int))).other (g' := w.heap.size + 2) (by omega) 6 (.int .u64 (m.seq : Int))).other (g' := w.heap.size + 2) (by omega) 7 (.int .u64 (m.pos : Int))).other (g' := w.heap.size + 2) (by omega) 8 (.int .i64 m.code)).other (g' := w.heap.size + 2) (by omega) 9 (.slice av m.vec.length cv)).other (g' := w.heap.size + 2) (by omega) 10 (.string (ByteArray.mk m.body.toArray)))
  have HA4 := Go.Lib.hid A4
  clear A4
  refine NB.t_rs 1 2 rfl rfl (by kernel_rfl) (by kernel_rfl) (by kernel_rfl) (by kernel_rfl) (by kernel_rfl) (by intro _ _ h; cases h) (by intro _ _ h; cases h) (by go_simp) _ (by go_simp) (NB.run_op_load_agg (off := 0) (m := 2) rfl rfl Tryd.underlying74 rfl _ _ _ a4 (by kernel_rfl) (Nat.le_refl _) _ rfl (Below.refl _ w7)) (fun Q' hK => ?_)
  go_wp2
  refine hK _ _ (NB.run_op_load_agg (off := 0) (m := 2) rfl rfl Tryd.underlying74 rfl _ _ _ HA4.out (by kernel_rfl) (Nat.le_refl _) _ rfl (Below.refl _ _)) ?_
  clear hK Q' HA4 q0 g0 q1 g1 q2 g2 q3 g3 q4 g4 q5 g5 q6 g6 q7 g7 q8 g8 q9 g9 q10 g10
  generalize (((((((((((w7.setCell ⟨w.heap.size + 2, 0, none⟩ (.int .i64 m.kind)).setCell ⟨w.heap.size + 2, 1, none⟩ (.int .u64 (m.ballot : Int))).setCell ⟨w.heap.size + 2, 2, none⟩ (.int .u64 (x : Int))).setCell ⟨w.heap.size + 2, 3, none⟩ (.int .i64 m.shard)).setCell ⟨w.heap.size + 2, 4, none⟩ (.int .i64 m.seg)).setCell ⟨w.heap.size + 2, 5, none⟩ (.int .u64 (m.client : Int))).setCell ⟨w.heap.size + 2, 6, none⟩ (.int .u64 (m.seq : Int))).setCell ⟨w.heap.size + 2, 7, none⟩ (.int .u64 (m.pos : Int))).setCell ⟨w.heap.size + 2, 8, none⟩ (.int .i64 m.code)).setCell ⟨w.heap.size + 2, 9, none⟩ (.slice av m.vec.length cv)).setCell ⟨w.heap.size + 2, 10, none⟩ (.string (ByteArray.mk m.body.toArray))) = w8 at *
  have A7 := HA7.out
  have F6 := HA6.out.other (g' := w.heap.size + 3) (by omega) 0 (.string (ByteArray.mk R'.b.toArray))
  have F6 := F6.other (g' := w.heap.size + 3) (by omega) 1 (.int .i64 R'.e)
  have F7 := (A7.set 0 (.string (ByteArray.mk R'.b.toArray))).set 1 (.int .i64 R'.e)
  simp only [List.set] at F7
  have B9 := (HB8.out.setCell (p := ⟨w.heap.size + 3, 0, none⟩) (by simp) (.string (ByteArray.mk R'.b.toArray))).setCell (p := ⟨w.heap.size + 3, 1, none⟩) (by simp) (.int .i64 R'.e)
  have HF6 := Go.Lib.hid F6; have HF7 := Go.Lib.hid F7; have HB9 := Go.Lib.hid B9
  clear F6 F7 B9
  obtain ⟨q0, q1, g0, g1⟩ := NB.rw2 A7
  refine NB.t_w 3 rfl (by kernel_rfl) (by kernel_rfl) rfl (fun Q' hK => ?_)
  go_wp2
  clear q0 q1 g0 g1 A7 HA6 HA7 HB8
  generalize ((w8.setCell ⟨w.heap.size + 3, 0, none⟩ (.string (ByteArray.mk R'.b.toArray))).setCell ⟨w.heap.size + 3, 1, none⟩ (.int .i64 R'.e)) = w9 at *
  refine NB.t_end (by kernel_rfl) ?_
  go_wp2
  have F6 := HF6.out; have F7 := HF7.out
  have q0 := F6.cell 0 _ rfl
  have q1 := F6.cell 1 _ rfl
  have q2 := F6.cell 2 _ rfl
  have q3 := F6.cell 3 _ rfl
  have q4 := F6.cell 4 _ rfl
  have q5 := F6.cell 5 _ rfl
  have q6 := F6.cell 6 _ rfl
  have q7 := F6.cell 7 _ rfl
  have q8 := F6.cell 8 _ rfl
  have q9 := F6.cell 9 _ rfl
  have q10 := F6.cell 10 _ rfl
  have c0 := F7.cell 0 _ rfl
  have c1 := F7.cell 1 _ rfl
  have hlt := F7.lt
  have hlt6 := F6.lt
  refine bodyPost_ret (v := .tuple #[.agg #[.int .i64 m.kind, .int .u64 (m.ballot : Int), .int .u64 (x : Int), .int .i64 m.shard, .int .i64 m.seg, .int .u64 (m.client : Int), .int .u64 (m.seq : Int), .int .u64 (m.pos : Int), .int .i64 m.code, .slice av m.vec.length cv, .string (ByteArray.mk m.body.toArray)], .agg #[.string (ByteArray.mk R'.b.toArray), .int .i64 R'.e]]) (by simp [results, Tryd.results30, go_sem, q0, q1, q2, q3, q4, q5, q6, q7, q8, q9, q10, c0, c1, hlt, hlt6]) rfl ?_
  exact take_mk R' (show (readF 1 m r).1 = R' from (show (r.uint).1 = R' by rw [HRX.out])) (by decide) { m with slot := x } rfl HR.out HB9.out (fun _ => by show _ = { m with slot := (r.uint).2 }; rw [HRX.out])

set_option maxRecDepth 100000 in
set_option maxHeartbeats 8000000 in
theorem take_4 (w : World) (m : Mm) (av : Option Addr) (cv : Nat) (r : Rr) (hR : RdU w av m.vec.length cv m.vec) (hl : r.b.length ≤ 100000000) :
    Calls Tryd.prog 30 #[.agg #[.int .i64 m.kind, .int .u64 (m.ballot : Int), .int .u64 (m.slot : Int), .int .i64 m.shard, .int .i64 m.seg, .int .u64 (m.client : Int), .int .u64 (m.seq : Int), .int .u64 (m.pos : Int), .int .i64 m.code, .slice av m.vec.length cv, .string (ByteArray.mk m.body.toArray)], .agg #[.string (ByteArray.mk r.b.toArray), .int .i64 r.e], .int .u8 99] w (TakeE w 4 m av cv r) := by
  have ctr := fun w => refRead_any w r hl
  unfold refR RefRU at ctr
  obtain ⟨R', x, hrx⟩ : ∃ R' x, r.uint = (R', x) := ⟨_, _, rfl⟩
  rw [hrx] at ctr
  simp only at ctr
  have HC := Go.Lib.hid ctr; have HRX := Go.Lib.hid hrx
  clear ctr hrx
  have T0 := TK.start w (.int .i64 m.kind) (.int .u64 (m.ballot : Int)) (.int .u64 (m.slot : Int)) (.int .i64 m.shard) (.int .i64 m.seg) (.int .u64 (m.client : Int)) (.int .u64 (m.seq : Int)) (.int .u64 (m.pos : Int)) (.int .i64 m.code) (.slice av m.vec.length cv) (.string (ByteArray.mk m.body.toArray)) (.string (ByteArray.mk r.b.toArray)) (.int .i64 r.e)
  have HR := Go.Lib.hid hR
  clear hR
  go_enter Tryd.func30, Tryd.ntmps30
  go_wp2_with fail
  generalize ((((w.alloc (.cells #[.int .i64 m.kind, .int .u64 (m.ballot : Int), .int .u64 (m.slot : Int), .int .i64 m.shard, .int .i64 m.seg, .int .u64 (m.client : Int), .int .u64 (m.seq : Int), .int .u64 (m.pos : Int), .int .i64 m.code, .slice av m.vec.length cv, .string (ByteArray.mk m.body.toArray)] 36)).alloc (.cells #[.string (ByteArray.mk r.b.toArray), .int .i64 r.e] 74)).alloc (.cells #[.int .i64 0, .int .u64 0, .int .u64 0, .int .i64 0, .int .i64 0, .int .u64 0, .int .u64 0, .int .u64 0, .int .i64 0, .slice none 0 0, .string (ByteArray.mk #[])] 36)).alloc (.cells #[.string (ByteArray.mk #[]), .int .i64 0] 74)) = w4 at *
  refine (HC.out _).mono ?_
  rintro e w5 ⟨rfl, hb5⟩
  have T5 := T0.below hb5
  clear T0 hb5
  obtain ⟨p0, p1, n0, n1⟩ := NB.rw2 T5.p4
  have T6 := (T5.setR 0 (.string (ByteArray.mk R'.b.toArray))).setR 1 (.int .i64 R'.e)
  simp only [List.set] at T6
  have HT6 := Go.Lib.hid T6
  clear T6 HC
  by_cases he : R'.e = 0
  case neg =>
    have heb : (R'.e != 0) = true := by simpa using he
    have HE := Go.Lib.hid he
    clear he
    go_wp2_with fail
    have T := HT6.out
    clear HT6 T5 p0 p1 n0 n1
    generalize ((w5.setCell ⟨w.heap.size + 1, 0, none⟩ (.string (ByteArray.mk R'.b.toArray))).setCell ⟨w.heap.size + 1, 1, none⟩ (.int .i64 R'.e)) = w6 at *
    refine NB.wp_region_t [2, 3] (by kernel_rfl) ?_
    have T9 := T.below (dB w6)
    clear T
    generalize w6.drew = w7 at *
    have a3 := T9.p3; have a4 := T9.p4; have a6 := T9.p6; have a7 := T9.p7; have B7 := T9.bel
    clear T9
    refine NB.t_r 0 [2, 3] rfl (by kernel_rfl) (by kernel_rfl) (by go_simp) _ (fun w' hw' => NB.run_op_load_agg (off := 0) (m := 11) rfl rfl Tryd.underlying36 rfl _ _ _ a3 (by kernel_rfl) (Nat.le_refl _) _ rfl hw') (fun K hK => ?_); go_simp; refine hK _ ?_; clear hK K
    have A6 := (((((((((((a6.set 0 (.int .i64 m.kind)).set 1 (.int .u64 (m.ballot : Int))).set 2 (.int .u64 (m.slot : Int))).set 3 (.int .i64 m.shard)).set 4 (.int .i64 m.seg)).set 5 (.int .u64 (m.client : Int))).set 6 (.int .u64 (m.seq : Int))).set 7 (.int .u64 (m.pos : Int))).set 8 (.int .i64 m.code)).set 9 (.slice av m.vec.length cv)).set 10 (.string (ByteArray.mk m.body.toArray)))
    simp only [List.set] at A6
    have A7 := (((((((((((a7.other (g' := w.heap.size + 2) (by omega) 0 (.int .i64 m.kind)).other (g' := w.heap.size + 2) (by omega) 1 (.int .u64 (m.ballot : Int))).other (g' := w.heap.size + 2) (by omega) 2 (.int .u64 (m.slot : Int))).other (g' := w.heap.size + 2) (by omega) 3 (.int .i64 m.shard)).other (g' := w.heap.size + 2) (by omega) 4 (.int .i64 m.seg)).other (g' := w.heap.size + 2) (by omega) 5 (.int .u64 (m.client : Int))).other (g' := w.heap.size + 2) (by omega) 6 (.int .u64 (m.seq : Int))).other (g' := w.heap.size + 2) (by omega) 7 (.int .u64 (m.pos : Int))).other (g' := w.heap.size + 2) (by omega) 8 (.int .i64 m.code)).other (g' := w.heap.size + 2) (by omega) 9 (.slice av m.vec.length cv)).other (g' := w.heap.size + 2) (by omega) 10 (.string (ByteArray.mk m.body.toArray)))
    have B8 : Below w.heap.size w (((((((((((w7.setCell ⟨w.heap.size + 2, 0, none⟩ (.int .i64 m.kind)).setCell ⟨w.heap.size + 2, 1, none⟩ (.int .u64 (m.ballot : Int))).setCell ⟨w.heap.size + 2, 2, none⟩ (.int .u64 (m.slot : Int))).setCell ⟨w.heap.size + 2, 3, none⟩ (.int .i64 m.shard)).setCell ⟨w.heap.size + 2, 4, none⟩ (.int .i64 m.seg)).setCell ⟨w.heap.size + 2, 5, none⟩ (.int .u64 (m.client : Int))).setCell ⟨w.heap.size + 2, 6, none⟩ (.int .u64 (m.seq : Int))).setCell ⟨w.heap.size + 2, 7, none⟩ (.int .u64 (m.pos : Int))).setCell ⟨w.heap.size + 2, 8, none⟩ (.int .i64 m.code)).setCell ⟨w.heap.size + 2, 9, none⟩ (.slice av m.vec.length cv)).setCell ⟨w.heap.size + 2, 10, none⟩ (.string (ByteArray.mk m.body.toArray))) := (((((((((((B7.setCell (p := ⟨w.heap.size + 2, 0, none⟩) (by simp) (.int .i64 m.kind)).setCell (p := ⟨w.heap.size + 2, 1, none⟩) (by simp) (.int .u64 (m.ballot : Int))).setCell (p := ⟨w.heap.size + 2, 2, none⟩) (by simp) (.int .u64 (m.slot : Int))).setCell (p := ⟨w.heap.size + 2, 3, none⟩) (by simp) (.int .i64 m.shard)).setCell (p := ⟨w.heap.size + 2, 4, none⟩) (by simp) (.int .i64 m.seg)).setCell (p := ⟨w.heap.size + 2, 5, none⟩) (by simp) (.int .u64 (m.client : Int))).setCell (p := ⟨w.heap.size + 2, 6, none⟩) (by simp) (.int .u64 (m.seq : Int))).setCell (p := ⟨w.heap.size + 2, 7, none⟩) (by simp) (.int .u64 (m.pos : Int))).setCell (p := ⟨w.heap.size + 2, 8, none⟩) (by simp) (.int .i64 m.code)).setCell (p := ⟨w.heap.size + 2, 9, none⟩) (by simp) (.slice av m.vec.length cv)).setCell (p := ⟨w.heap.size + 2, 10, none⟩) (by simp) (.string (ByteArray.mk m.body.toArray)))
    have HA6 := Go.Lib.hid A6; have HA7 := Go.Lib.hid A7; have HB8 := Go.Lib.hid B8
    clear A6 A7 B8 B7 a7
    have q0 := a6.cell 0 _ rfl
    have g0 := a6.free 0
    have q1 := a6.cell 1 _ rfl
    have g1 := a6.free 1
    have q2 := a6.cell 2 _ rfl
    have g2 := a6.free 2
    have q3 := a6.cell 3 _ rfl
    have g3 := a6.free 3
    have q4 := a6.cell 4 _ rfl
    have g4 := a6.free 4
    have q5 := a6.cell 5 _ rfl
    have g5 := a6.free 5
    have q6 := a6.cell 6 _ rfl
    have g6 := a6.free 6
    have q7 := a6.cell 7 _ rfl
    have g7 := a6.free 7
    have q8 := a6.cell 8 _ rfl
    have g8 := a6.free 8
    have q9 := a6.cell 9 _ rfl
    have g9 := a6.free 9
    have q10 := a6.cell 10 _ rfl
    have g10 := a6.free 10
    have A4 := (((((((((((a4.other (g' := w.heap.size + 2) (by omega) 0 (.int .i64 m.kind)).other (g' := w.heap.size + 2) (by omega) 1 (.int .u64 (m.ballot : Int))).other (g' := w.heap.size + 2) (by omega) 2 (.int .u64 (m.slot : Int))).other (g' := w.heap.size + 2) (by omega) 3 (.int .i64 m.shard)).other (g' := w.heap.size + 2) (by omega) 4 (.int .i64 m.seg)).other (g' := w.heap.size + 2) (by omega) 5 (.int .u64 (m.client : Int))).other (g' := w.heap.size + 2) (by omega) 6 (.int .u64 (m.seq : Int))).other (g' := w.heap.size + 2) (by omega) 7 (.int .u64 (m.pos : Int))).other (g' := w.heap.size + 2) (by omega) 8 (.int .i64 m.code)).other (g' := w.heap.size + 2) (by omega) 9 (.slice av m.vec.length cv)).other (g' := w.heap.size + 2) (by omega) 10 (.string (ByteArray.mk m.body.toArray)))
    have HA4 := Go.Lib.hid A4
    clear A4
    refine NB.t_rs 1 2 rfl rfl (by kernel_rfl) (by kernel_rfl) (by kernel_rfl) (by kernel_rfl) (by kernel_rfl) (by intro _ _ h; cases h) (by intro _ _ h; cases h) (by go_simp) _ (by go_simp) (NB.run_op_load_agg (off := 0) (m := 2) rfl rfl Tryd.underlying74 rfl _ _ _ a4 (by kernel_rfl) (Nat.le_refl _) _ rfl (Below.refl _ w7)) (fun Q' hK => ?_)
    go_wp2
    refine hK _ _ (NB.run_op_load_agg (off := 0) (m := 2) rfl rfl Tryd.underlying74 rfl _ _ _ HA4.out (by kernel_rfl) (Nat.le_refl _) _ rfl (Below.refl _ _)) ?_
    clear hK Q' HA4 q0 g0 q1 g1 q2 g2 q3 g3 q4 g4 q5 g5 q6 g6 q7 g7 q8 g8 q9 g9 q10 g10
    generalize (((((((((((w7.setCell ⟨w.heap.size + 2, 0, none⟩ (.int .i64 m.kind)).setCell ⟨w.heap.size + 2, 1, none⟩ (.int .u64 (m.ballot : Int))).setCell ⟨w.heap.size + 2, 2, none⟩ (.int .u64 (m.slot : Int))).setCell ⟨w.heap.size + 2, 3, none⟩ (.int .i64 m.shard)).setCell ⟨w.heap.size + 2, 4, none⟩ (.int .i64 m.seg)).setCell ⟨w.heap.size + 2, 5, none⟩ (.int .u64 (m.client : Int))).setCell ⟨w.heap.size + 2, 6, none⟩ (.int .u64 (m.seq : Int))).setCell ⟨w.heap.size + 2, 7, none⟩ (.int .u64 (m.pos : Int))).setCell ⟨w.heap.size + 2, 8, none⟩ (.int .i64 m.code)).setCell ⟨w.heap.size + 2, 9, none⟩ (.slice av m.vec.length cv)).setCell ⟨w.heap.size + 2, 10, none⟩ (.string (ByteArray.mk m.body.toArray))) = w8 at *
    have A7 := HA7.out
    have F6 := HA6.out.other (g' := w.heap.size + 3) (by omega) 0 (.string (ByteArray.mk R'.b.toArray))
    have F6 := F6.other (g' := w.heap.size + 3) (by omega) 1 (.int .i64 R'.e)
    have F7 := (A7.set 0 (.string (ByteArray.mk R'.b.toArray))).set 1 (.int .i64 R'.e)
    simp only [List.set] at F7
    have B9 := (HB8.out.setCell (p := ⟨w.heap.size + 3, 0, none⟩) (by simp) (.string (ByteArray.mk R'.b.toArray))).setCell (p := ⟨w.heap.size + 3, 1, none⟩) (by simp) (.int .i64 R'.e)
    have HF6 := Go.Lib.hid F6; have HF7 := Go.Lib.hid F7; have HB9 := Go.Lib.hid B9
    clear F6 F7 B9
    obtain ⟨q0, q1, g0, g1⟩ := NB.rw2 A7
    refine NB.t_w 3 rfl (by kernel_rfl) (by kernel_rfl) rfl (fun Q' hK => ?_)
    go_wp2
    clear q0 q1 g0 g1 A7 HA6 HA7 HB8
    generalize ((w8.setCell ⟨w.heap.size + 3, 0, none⟩ (.string (ByteArray.mk R'.b.toArray))).setCell ⟨w.heap.size + 3, 1, none⟩ (.int .i64 R'.e)) = w9 at *
    refine NB.t_end (by kernel_rfl) ?_
    go_wp2
    have F6 := HF6.out; have F7 := HF7.out
    have q0 := F6.cell 0 _ rfl
    have q1 := F6.cell 1 _ rfl
    have q2 := F6.cell 2 _ rfl
    have q3 := F6.cell 3 _ rfl
    have q4 := F6.cell 4 _ rfl
    have q5 := F6.cell 5 _ rfl
    have q6 := F6.cell 6 _ rfl
    have q7 := F6.cell 7 _ rfl
    have q8 := F6.cell 8 _ rfl
    have q9 := F6.cell 9 _ rfl
    have q10 := F6.cell 10 _ rfl
    have c0 := F7.cell 0 _ rfl
    have c1 := F7.cell 1 _ rfl
    have hlt := F7.lt
    have hlt6 := F6.lt
    refine bodyPost_ret (v := .tuple #[.agg #[.int .i64 m.kind, .int .u64 (m.ballot : Int), .int .u64 (m.slot : Int), .int .i64 m.shard, .int .i64 m.seg, .int .u64 (m.client : Int), .int .u64 (m.seq : Int), .int .u64 (m.pos : Int), .int .i64 m.code, .slice av m.vec.length cv, .string (ByteArray.mk m.body.toArray)], .agg #[.string (ByteArray.mk R'.b.toArray), .int .i64 R'.e]]) (by simp [results, Tryd.results30, go_sem, q0, q1, q2, q3, q4, q5, q6, q7, q8, q9, q10, c0, c1, hlt, hlt6]) rfl ?_
    exact take_mk R' (show (readF 4 m r).1 = R' from (show (r.uint).1 = R' by rw [HRX.out])) (by decide) m rfl HR.out HB9.out (fun h => absurd h HE.out)
  have heb : (R'.e != 0) = false := by simpa using he
  have HE := Go.Lib.hid he
  clear he
  have T7 := HT6.out.setM 5 (.int .u64 (x : Int))
  have d := T5.p3.cell 5 _ rfl
  have fd := T5.p3.free 5
  have HT7 := Go.Lib.hid T7
  clear HT6 T7
  go_wp2_with fail
  have T := HT7.out
  clear HT7 T5 p0 p1 n0 n1 d fd
  generalize ((w5.setCell ⟨w.heap.size + 1, 0, none⟩ (.string (ByteArray.mk R'.b.toArray))).setCell ⟨w.heap.size + 1, 1, none⟩ (.int .i64 R'.e)).setCell ⟨w.heap.size, 5, none⟩ (.int .u64 (x : Int)) = w6 at *
  simp only [List.set] at T
  refine NB.wp_region_t [2, 3] (by kernel_rfl) ?_
  have T9 := T.below (dB w6)
  clear T
  generalize w6.drew = w7 at *
  have a3 := T9.p3; have a4 := T9.p4; have a6 := T9.p6; have a7 := T9.p7; have B7 := T9.bel
  clear T9
  refine NB.t_r 0 [2, 3] rfl (by kernel_rfl) (by kernel_rfl) (by go_simp) _ (fun w' hw' => NB.run_op_load_agg (off := 0) (m := 11) rfl rfl Tryd.underlying36 rfl _ _ _ a3 (by kernel_rfl) (Nat.le_refl _) _ rfl hw') (fun K hK => ?_); go_simp; refine hK _ ?_; clear hK K
  have A6 := (((((((((((a6.set 0 (.int .i64 m.kind)).set 1 (.int .u64 (m.ballot : Int))).set 2 (.int .u64 (m.slot : Int))).set 3 (.int .i64 m.shard)).set 4 (.int .i64 m.seg)).set 5 (.int .u64 (x : Int))).set 6 (.int .u64 (m.seq : Int))).set 7 (.int .u64 (m.pos : Int))).set 8 (.int .i64 m.code)).set 9 (.slice av m.vec.length cv)).set 10 (.string (ByteArray.mk m.body.toArray)))
  simp only [List.set] at A6
  have A7 := (((((((((((a7.other (g' := w.heap.size + 2) (by omega) 0 (.int .i64 m.kind)).other (g' := w.heap.size + 2) (by omega) 1 (.int .u64 (m.ballot : Int))).other (g' := w.heap.size + 2) (by omega) 2 (.int .u64 (m.slot : Int))).other (g' := w.heap.size + 2) (by omega) 3 (.int .i64 m.shard)).other (g' := w.heap.size + 2) (by omega) 4 (.int .i64 m.seg)).other (g' := w.heap.size + 2) (by omega) 5 (.int .u64 (x : Int))).other (g' := w.heap.size + 2) (by omega) 6 (.int .u64 (m.seq : Int))).other (g' := w.heap.size + 2) (by omega) 7 (.int .u64 (m.pos : Int))).other (g' := w.heap.size + 2) (by omega) 8 (.int .i64 m.code)).other (g' := w.heap.size + 2) (by omega) 9 (.slice av m.vec.length cv)).other (g' := w.heap.size + 2) (by omega) 10 (.string (ByteArray.mk m.body.toArray)))
  have B8 : Below w.heap.size w (((((((((((w7.setCell ⟨w.heap.size + 2, 0, none⟩ (.int .i64 m.kind)).setCell ⟨w.heap.size + 2, 1, none⟩ (.int .u64 (m.ballot : Int))).setCell ⟨w.heap.size + 2, 2, none⟩ (.int .u64 (m.slot : Int))).setCell ⟨w.heap.size + 2, 3, none⟩ (.int .i64 m.shard)).setCell ⟨w.heap.size + 2, 4, none⟩ (.int .i64 m.seg)).setCell ⟨w.heap.size + 2, 5, none⟩ (.int .u64 (x : Int))).setCell ⟨w.heap.size + 2, 6, none⟩ (.int .u64 (m.seq : Int))).setCell ⟨w.heap.size + 2, 7, none⟩ (.int .u64 (m.pos : Int))).setCell ⟨w.heap.size + 2, 8, none⟩ (.int .i64 m.code)).setCell ⟨w.heap.size + 2, 9, none⟩ (.slice av m.vec.length cv)).setCell ⟨w.heap.size + 2, 10, none⟩ (.string (ByteArray.mk m.body.toArray))) := (((((((((((B7.setCell (p := ⟨w.heap.size + 2, 0, none⟩) (by simp) (.int .i64 m.kind)).setCell (p := ⟨w.heap.size + 2, 1, none⟩) (by simp) (.int .u64 (m.ballot : Int))).setCell (p := ⟨w.heap.size + 2, 2, none⟩) (by simp) (.int .u64 (m.slot : Int))).setCell (p := ⟨w.heap.size + 2, 3, none⟩) (by simp) (.int .i64 m.shard)).setCell (p := ⟨w.heap.size + 2, 4, none⟩) (by simp) (.int .i64 m.seg)).setCell (p := ⟨w.heap.size + 2, 5, none⟩) (by simp) (.int .u64 (x : Int))).setCell (p := ⟨w.heap.size + 2, 6, none⟩) (by simp) (.int .u64 (m.seq : Int))).setCell (p := ⟨w.heap.size + 2, 7, none⟩) (by simp) (.int .u64 (m.pos : Int))).setCell (p := ⟨w.heap.size + 2, 8, none⟩) (by simp) (.int .i64 m.code)).setCell (p := ⟨w.heap.size + 2, 9, none⟩) (by simp) (.slice av m.vec.length cv)).setCell (p := ⟨w.heap.size + 2, 10, none⟩) (by simp) (.string (ByteArray.mk m.body.toArray)))
  have HA6 := Go.Lib.hid A6; have HA7 := Go.Lib.hid A7; have HB8 := Go.Lib.hid B8
  clear A6 A7 B8 B7 a7
  have q0 := a6.cell 0 _ rfl
  have g0 := a6.free 0
  have q1 := a6.cell 1 _ rfl
  have g1 := a6.free 1
  have q2 := a6.cell 2 _ rfl
  have g2 := a6.free 2
  have q3 := a6.cell 3 _ rfl
  have g3 := a6.free 3
  have q4 := a6.cell 4 _ rfl
  have g4 := a6.free 4
  have q5 := a6.cell 5 _ rfl
  have g5 := a6.free 5
  have q6 := a6.cell 6 _ rfl
  have g6 := a6.free 6
  have q7 := a6.cell 7 _ rfl
  have g7 := a6.free 7
  have q8 := a6.cell 8 _ rfl
  have g8 := a6.free 8
  have q9 := a6.cell 9 _ rfl
  have g9 := a6.free 9
  have q10 := a6.cell 10 _ rfl
  have g10 := a6.free 10
  have A4 := (((((((((((a4.other (g' := w.heap.size + 2) (by omega) 0 (.int .i64 m.kind)).other (g' := w.heap.size + 2) (by omega) 1 (.int .u64 (m.ballot : Int))).other (g' := w.heap.size + 2) (by omega) 2 (.int .u64 (m.slot : Int))).other (g' := w.heap.size + 2) (by omega) 3 (.int .i64 m.shard)).other (g' := w.heap.size + 2) (by omega) 4 (.int .i64 m.seg)).other (g' := w.heap.size + 2) (by omega) 5 (.int .u64 (x : Int))).other (g' := w.heap.size + 2) (by omega) 6 (.int .u64 (m.seq : Int))).other (g' := w.heap.size + 2) (by omega) 7 (.int .u64 (m.pos : Int))).other (g' := w.heap.size + 2) (by omega) 8 (.int .i64 m.code)).other (g' := w.heap.size + 2) (by omega) 9 (.slice av m.vec.length cv)).other (g' := w.heap.size + 2) (by omega) 10 (.string (ByteArray.mk m.body.toArray)))
  have HA4 := Go.Lib.hid A4
  clear A4
  refine NB.t_rs 1 2 rfl rfl (by kernel_rfl) (by kernel_rfl) (by kernel_rfl) (by kernel_rfl) (by kernel_rfl) (by intro _ _ h; cases h) (by intro _ _ h; cases h) (by go_simp) _ (by go_simp) (NB.run_op_load_agg (off := 0) (m := 2) rfl rfl Tryd.underlying74 rfl _ _ _ a4 (by kernel_rfl) (Nat.le_refl _) _ rfl (Below.refl _ w7)) (fun Q' hK => ?_)
  go_wp2
  refine hK _ _ (NB.run_op_load_agg (off := 0) (m := 2) rfl rfl Tryd.underlying74 rfl _ _ _ HA4.out (by kernel_rfl) (Nat.le_refl _) _ rfl (Below.refl _ _)) ?_
  clear hK Q' HA4 q0 g0 q1 g1 q2 g2 q3 g3 q4 g4 q5 g5 q6 g6 q7 g7 q8 g8 q9 g9 q10 g10
  generalize (((((((((((w7.setCell ⟨w.heap.size + 2, 0, none⟩ (.int .i64 m.kind)).setCell ⟨w.heap.size + 2, 1, none⟩ (.int .u64 (m.ballot : Int))).setCell ⟨w.heap.size + 2, 2, none⟩ (.int .u64 (m.slot : Int))).setCell ⟨w.heap.size + 2, 3, none⟩ (.int .i64 m.shard)).setCell ⟨w.heap.size + 2, 4, none⟩ (.int .i64 m.seg)).setCell ⟨w.heap.size + 2, 5, none⟩ (.int .u64 (x : Int))).setCell ⟨w.heap.size + 2, 6, none⟩ (.int .u64 (m.seq : Int))).setCell ⟨w.heap.size + 2, 7, none⟩ (.int .u64 (m.pos : Int))).setCell ⟨w.heap.size + 2, 8, none⟩ (.int .i64 m.code)).setCell ⟨w.heap.size + 2, 9, none⟩ (.slice av m.vec.length cv)).setCell ⟨w.heap.size + 2, 10, none⟩ (.string (ByteArray.mk m.body.toArray))) = w8 at *
  have A7 := HA7.out
  have F6 := HA6.out.other (g' := w.heap.size + 3) (by omega) 0 (.string (ByteArray.mk R'.b.toArray))
  have F6 := F6.other (g' := w.heap.size + 3) (by omega) 1 (.int .i64 R'.e)
  have F7 := (A7.set 0 (.string (ByteArray.mk R'.b.toArray))).set 1 (.int .i64 R'.e)
  simp only [List.set] at F7
  have B9 := (HB8.out.setCell (p := ⟨w.heap.size + 3, 0, none⟩) (by simp) (.string (ByteArray.mk R'.b.toArray))).setCell (p := ⟨w.heap.size + 3, 1, none⟩) (by simp) (.int .i64 R'.e)
  have HF6 := Go.Lib.hid F6; have HF7 := Go.Lib.hid F7; have HB9 := Go.Lib.hid B9
  clear F6 F7 B9
  obtain ⟨q0, q1, g0, g1⟩ := NB.rw2 A7
  refine NB.t_w 3 rfl (by kernel_rfl) (by kernel_rfl) rfl (fun Q' hK => ?_)
  go_wp2
  clear q0 q1 g0 g1 A7 HA6 HA7 HB8
  generalize ((w8.setCell ⟨w.heap.size + 3, 0, none⟩ (.string (ByteArray.mk R'.b.toArray))).setCell ⟨w.heap.size + 3, 1, none⟩ (.int .i64 R'.e)) = w9 at *
  refine NB.t_end (by kernel_rfl) ?_
  go_wp2
  have F6 := HF6.out; have F7 := HF7.out
  have q0 := F6.cell 0 _ rfl
  have q1 := F6.cell 1 _ rfl
  have q2 := F6.cell 2 _ rfl
  have q3 := F6.cell 3 _ rfl
  have q4 := F6.cell 4 _ rfl
  have q5 := F6.cell 5 _ rfl
  have q6 := F6.cell 6 _ rfl
  have q7 := F6.cell 7 _ rfl
  have q8 := F6.cell 8 _ rfl
  have q9 := F6.cell 9 _ rfl
  have q10 := F6.cell 10 _ rfl
  have c0 := F7.cell 0 _ rfl
  have c1 := F7.cell 1 _ rfl
  have hlt := F7.lt
  have hlt6 := F6.lt
  refine bodyPost_ret (v := .tuple #[.agg #[.int .i64 m.kind, .int .u64 (m.ballot : Int), .int .u64 (m.slot : Int), .int .i64 m.shard, .int .i64 m.seg, .int .u64 (x : Int), .int .u64 (m.seq : Int), .int .u64 (m.pos : Int), .int .i64 m.code, .slice av m.vec.length cv, .string (ByteArray.mk m.body.toArray)], .agg #[.string (ByteArray.mk R'.b.toArray), .int .i64 R'.e]]) (by simp [results, Tryd.results30, go_sem, q0, q1, q2, q3, q4, q5, q6, q7, q8, q9, q10, c0, c1, hlt, hlt6]) rfl ?_
  exact take_mk R' (show (readF 4 m r).1 = R' from (show (r.uint).1 = R' by rw [HRX.out])) (by decide) { m with client := x } rfl HR.out HB9.out (fun _ => by show _ = { m with client := (r.uint).2 }; rw [HRX.out])

set_option maxRecDepth 100000 in
set_option maxHeartbeats 8000000 in
theorem take_5 (w : World) (m : Mm) (av : Option Addr) (cv : Nat) (r : Rr) (hR : RdU w av m.vec.length cv m.vec) (hl : r.b.length ≤ 100000000) :
    Calls Tryd.prog 30 #[.agg #[.int .i64 m.kind, .int .u64 (m.ballot : Int), .int .u64 (m.slot : Int), .int .i64 m.shard, .int .i64 m.seg, .int .u64 (m.client : Int), .int .u64 (m.seq : Int), .int .u64 (m.pos : Int), .int .i64 m.code, .slice av m.vec.length cv, .string (ByteArray.mk m.body.toArray)], .agg #[.string (ByteArray.mk r.b.toArray), .int .i64 r.e], .int .u8 113] w (TakeE w 5 m av cv r) := by
  have ctr := fun w => refRead_any w r hl
  unfold refR RefRU at ctr
  obtain ⟨R', x, hrx⟩ : ∃ R' x, r.uint = (R', x) := ⟨_, _, rfl⟩
  rw [hrx] at ctr
  simp only at ctr
  have HC := Go.Lib.hid ctr; have HRX := Go.Lib.hid hrx
  clear ctr hrx
  have T0 := TK.start w (.int .i64 m.kind) (.int .u64 (m.ballot : Int)) (.int .u64 (m.slot : Int)) (.int .i64 m.shard) (.int .i64 m.seg) (.int .u64 (m.client : Int)) (.int .u64 (m.seq : Int)) (.int .u64 (m.pos : Int)) (.int .i64 m.code) (.slice av m.vec.length cv) (.string (ByteArray.mk m.body.toArray)) (.string (ByteArray.mk r.b.toArray)) (.int .i64 r.e)
  have HR := Go.Lib.hid hR
  clear hR
  go_enter Tryd.func30, Tryd.ntmps30
  go_wp2_with fail
  generalize ((((w.alloc (.cells #[.int .i64 m.kind, .int .u64 (m.ballot : Int), .int .u64 (m.slot : Int), .int .i64 m.shard, .int .i64 m.seg, .int .u64 (m.client : Int), .int .u64 (m.seq : Int), .int .u64 (m.pos : Int), .int .i64 m.code, .slice av m.vec.length cv, .string (ByteArray.mk m.body.toArray)] 36)).alloc (.cells #[.string (ByteArray.mk r.b.toArray), .int .i64 r.e] 74)).alloc (.cells #[.int .i64 0, .int .u64 0, .int .u64 0, .int .i64 0, .int .i64 0, .int .u64 0, .int .u64 0, .int .u64 0, .int .i64 0, .slice none 0 0, .string (ByteArray.mk #[])] 36)).alloc (.cells #[.string (ByteArray.mk #[]), .int .i64 0] 74)) = w4 at *
  refine (HC.out _).mono ?_
  rintro e w5 ⟨rfl, hb5⟩
  have T5 := T0.below hb5
  clear T0 hb5
  obtain ⟨p0, p1, n0, n1⟩ := NB.rw2 T5.p4
  have T6 := (T5.setR 0 (.string (ByteArray.mk R'.b.toArray))).setR 1 (.int .i64 R'.e)
  simp only [List.set] at T6
  have HT6 := Go.Lib.hid T6
  clear T6 HC
  by_cases he : R'.e = 0
  case neg =>
    have heb : (R'.e != 0) = true := by simpa using he
    have HE := Go.Lib.hid he
    clear he
    go_wp2_with fail
    have T := HT6.out
    clear HT6 T5 p0 p1 n0 n1
    generalize ((w5.setCell ⟨w.heap.size + 1, 0, none⟩ (.string (ByteArray.mk R'.b.toArray))).setCell ⟨w.heap.size + 1, 1, none⟩ (.int .i64 R'.e)) = w6 at *
    refine NB.wp_region_t [2, 3] (by kernel_rfl) ?_
    have T9 := T.below (dB w6)
    clear T
    generalize w6.drew = w7 at *
    have a3 := T9.p3; have a4 := T9.p4; have a6 := T9.p6; have a7 := T9.p7; have B7 := T9.bel
    clear T9
    refine NB.t_r 0 [2, 3] rfl (by kernel_rfl) (by kernel_rfl) (by go_simp) _ (fun w' hw' => NB.run_op_load_agg (off := 0) (m := 11) rfl rfl Tryd.underlying36 rfl _ _ _ a3 (by kernel_rfl) (Nat.le_refl _) _ rfl hw') (fun K hK => ?_); go_simp; refine hK _ ?_; clear hK K
    have A6 := (((((((((((a6.set 0 (.int .i64 m.kind)).set 1 (.int .u64 (m.ballot : Int))).set 2 (.int .u64 (m.slot : Int))).set 3 (.int .i64 m.shard)).set 4 (.int .i64 m.seg)).set 5 (.int .u64 (m.client : Int))).set 6 (.int .u64 (m.seq : Int))).set 7 (.int .u64 (m.pos : Int))).set 8 (.int .i64 m.code)).set 9 (.slice av m.vec.length cv)).set 10 (.string (ByteArray.mk m.body.toArray)))
    simp only [List.set] at A6
    have A7 := (((((((((((a7.other (g' := w.heap.size + 2) (by omega) 0 (.int .i64 m.kind)).other (g' := w.heap.size + 2) (by omega) 1 (.int .u64 (m.ballot : Int))).other (g' := w.heap.size + 2) (by omega) 2 (.int .u64 (m.slot : Int))).other (g' := w.heap.size + 2) (by omega) 3 (.int .i64 m.shard)).other (g' := w.heap.size + 2) (by omega) 4 (.int .i64 m.seg)).other (g' := w.heap.size + 2) (by omega) 5 (.int .u64 (m.client : Int))).other (g' := w.heap.size + 2) (by omega) 6 (.int .u64 (m.seq : Int))).other (g' := w.heap.size + 2) (by omega) 7 (.int .u64 (m.pos : Int))).other (g' := w.heap.size + 2) (by omega) 8 (.int .i64 m.code)).other (g' := w.heap.size + 2) (by omega) 9 (.slice av m.vec.length cv)).other (g' := w.heap.size + 2) (by omega) 10 (.string (ByteArray.mk m.body.toArray)))
    have B8 : Below w.heap.size w (((((((((((w7.setCell ⟨w.heap.size + 2, 0, none⟩ (.int .i64 m.kind)).setCell ⟨w.heap.size + 2, 1, none⟩ (.int .u64 (m.ballot : Int))).setCell ⟨w.heap.size + 2, 2, none⟩ (.int .u64 (m.slot : Int))).setCell ⟨w.heap.size + 2, 3, none⟩ (.int .i64 m.shard)).setCell ⟨w.heap.size + 2, 4, none⟩ (.int .i64 m.seg)).setCell ⟨w.heap.size + 2, 5, none⟩ (.int .u64 (m.client : Int))).setCell ⟨w.heap.size + 2, 6, none⟩ (.int .u64 (m.seq : Int))).setCell ⟨w.heap.size + 2, 7, none⟩ (.int .u64 (m.pos : Int))).setCell ⟨w.heap.size + 2, 8, none⟩ (.int .i64 m.code)).setCell ⟨w.heap.size + 2, 9, none⟩ (.slice av m.vec.length cv)).setCell ⟨w.heap.size + 2, 10, none⟩ (.string (ByteArray.mk m.body.toArray))) := (((((((((((B7.setCell (p := ⟨w.heap.size + 2, 0, none⟩) (by simp) (.int .i64 m.kind)).setCell (p := ⟨w.heap.size + 2, 1, none⟩) (by simp) (.int .u64 (m.ballot : Int))).setCell (p := ⟨w.heap.size + 2, 2, none⟩) (by simp) (.int .u64 (m.slot : Int))).setCell (p := ⟨w.heap.size + 2, 3, none⟩) (by simp) (.int .i64 m.shard)).setCell (p := ⟨w.heap.size + 2, 4, none⟩) (by simp) (.int .i64 m.seg)).setCell (p := ⟨w.heap.size + 2, 5, none⟩) (by simp) (.int .u64 (m.client : Int))).setCell (p := ⟨w.heap.size + 2, 6, none⟩) (by simp) (.int .u64 (m.seq : Int))).setCell (p := ⟨w.heap.size + 2, 7, none⟩) (by simp) (.int .u64 (m.pos : Int))).setCell (p := ⟨w.heap.size + 2, 8, none⟩) (by simp) (.int .i64 m.code)).setCell (p := ⟨w.heap.size + 2, 9, none⟩) (by simp) (.slice av m.vec.length cv)).setCell (p := ⟨w.heap.size + 2, 10, none⟩) (by simp) (.string (ByteArray.mk m.body.toArray)))
    have HA6 := Go.Lib.hid A6; have HA7 := Go.Lib.hid A7; have HB8 := Go.Lib.hid B8
    clear A6 A7 B8 B7 a7
    have q0 := a6.cell 0 _ rfl
    have g0 := a6.free 0
    have q1 := a6.cell 1 _ rfl
    have g1 := a6.free 1
    have q2 := a6.cell 2 _ rfl
    have g2 := a6.free 2
    have q3 := a6.cell 3 _ rfl
    have g3 := a6.free 3
    have q4 := a6.cell 4 _ rfl
    have g4 := a6.free 4
    have q5 := a6.cell 5 _ rfl
    have g5 := a6.free 5
    have q6 := a6.cell 6 _ rfl
    have g6 := a6.free 6
    have q7 := a6.cell 7 _ rfl
    have g7 := a6.free 7
    have q8 := a6.cell 8 _ rfl
    have g8 := a6.free 8
    have q9 := a6.cell 9 _ rfl
    have g9 := a6.free 9
    have q10 := a6.cell 10 _ rfl
    have g10 := a6.free 10
    have A4 := (((((((((((a4.other (g' := w.heap.size + 2) (by omega) 0 (.int .i64 m.kind)).other (g' := w.heap.size + 2) (by omega) 1 (.int .u64 (m.ballot : Int))).other (g' := w.heap.size + 2) (by omega) 2 (.int .u64 (m.slot : Int))).other (g' := w.heap.size + 2) (by omega) 3 (.int .i64 m.shard)).other (g' := w.heap.size + 2) (by omega) 4 (.int .i64 m.seg)).other (g' := w.heap.size + 2) (by omega) 5 (.int .u64 (m.client : Int))).other (g' := w.heap.size + 2) (by omega) 6 (.int .u64 (m.seq : Int))).other (g' := w.heap.size + 2) (by omega) 7 (.int .u64 (m.pos : Int))).other (g' := w.heap.size + 2) (by omega) 8 (.int .i64 m.code)).other (g' := w.heap.size + 2) (by omega) 9 (.slice av m.vec.length cv)).other (g' := w.heap.size + 2) (by omega) 10 (.string (ByteArray.mk m.body.toArray)))
    have HA4 := Go.Lib.hid A4
    clear A4
    refine NB.t_rs 1 2 rfl rfl (by kernel_rfl) (by kernel_rfl) (by kernel_rfl) (by kernel_rfl) (by kernel_rfl) (by intro _ _ h; cases h) (by intro _ _ h; cases h) (by go_simp) _ (by go_simp) (NB.run_op_load_agg (off := 0) (m := 2) rfl rfl Tryd.underlying74 rfl _ _ _ a4 (by kernel_rfl) (Nat.le_refl _) _ rfl (Below.refl _ w7)) (fun Q' hK => ?_)
    go_wp2
    refine hK _ _ (NB.run_op_load_agg (off := 0) (m := 2) rfl rfl Tryd.underlying74 rfl _ _ _ HA4.out (by kernel_rfl) (Nat.le_refl _) _ rfl (Below.refl _ _)) ?_
    clear hK Q' HA4 q0 g0 q1 g1 q2 g2 q3 g3 q4 g4 q5 g5 q6 g6 q7 g7 q8 g8 q9 g9 q10 g10
    generalize (((((((((((w7.setCell ⟨w.heap.size + 2, 0, none⟩ (.int .i64 m.kind)).setCell ⟨w.heap.size + 2, 1, none⟩ (.int .u64 (m.ballot : Int))).setCell ⟨w.heap.size + 2, 2, none⟩ (.int .u64 (m.slot : Int))).setCell ⟨w.heap.size + 2, 3, none⟩ (.int .i64 m.shard)).setCell ⟨w.heap.size + 2, 4, none⟩ (.int .i64 m.seg)).setCell ⟨w.heap.size + 2, 5, none⟩ (.int .u64 (m.client : Int))).setCell ⟨w.heap.size + 2, 6, none⟩ (.int .u64 (m.seq : Int))).setCell ⟨w.heap.size + 2, 7, none⟩ (.int .u64 (m.pos : Int))).setCell ⟨w.heap.size + 2, 8, none⟩ (.int .i64 m.code)).setCell ⟨w.heap.size + 2, 9, none⟩ (.slice av m.vec.length cv)).setCell ⟨w.heap.size + 2, 10, none⟩ (.string (ByteArray.mk m.body.toArray))) = w8 at *
    have A7 := HA7.out
    have F6 := HA6.out.other (g' := w.heap.size + 3) (by omega) 0 (.string (ByteArray.mk R'.b.toArray))
    have F6 := F6.other (g' := w.heap.size + 3) (by omega) 1 (.int .i64 R'.e)
    have F7 := (A7.set 0 (.string (ByteArray.mk R'.b.toArray))).set 1 (.int .i64 R'.e)
    simp only [List.set] at F7
    have B9 := (HB8.out.setCell (p := ⟨w.heap.size + 3, 0, none⟩) (by simp) (.string (ByteArray.mk R'.b.toArray))).setCell (p := ⟨w.heap.size + 3, 1, none⟩) (by simp) (.int .i64 R'.e)
    have HF6 := Go.Lib.hid F6; have HF7 := Go.Lib.hid F7; have HB9 := Go.Lib.hid B9
    clear F6 F7 B9
    obtain ⟨q0, q1, g0, g1⟩ := NB.rw2 A7
    refine NB.t_w 3 rfl (by kernel_rfl) (by kernel_rfl) rfl (fun Q' hK => ?_)
    go_wp2
    clear q0 q1 g0 g1 A7 HA6 HA7 HB8
    generalize ((w8.setCell ⟨w.heap.size + 3, 0, none⟩ (.string (ByteArray.mk R'.b.toArray))).setCell ⟨w.heap.size + 3, 1, none⟩ (.int .i64 R'.e)) = w9 at *
    refine NB.t_end (by kernel_rfl) ?_
    go_wp2
    have F6 := HF6.out; have F7 := HF7.out
    have q0 := F6.cell 0 _ rfl
    have q1 := F6.cell 1 _ rfl
    have q2 := F6.cell 2 _ rfl
    have q3 := F6.cell 3 _ rfl
    have q4 := F6.cell 4 _ rfl
    have q5 := F6.cell 5 _ rfl
    have q6 := F6.cell 6 _ rfl
    have q7 := F6.cell 7 _ rfl
    have q8 := F6.cell 8 _ rfl
    have q9 := F6.cell 9 _ rfl
    have q10 := F6.cell 10 _ rfl
    have c0 := F7.cell 0 _ rfl
    have c1 := F7.cell 1 _ rfl
    have hlt := F7.lt
    have hlt6 := F6.lt
    refine bodyPost_ret (v := .tuple #[.agg #[.int .i64 m.kind, .int .u64 (m.ballot : Int), .int .u64 (m.slot : Int), .int .i64 m.shard, .int .i64 m.seg, .int .u64 (m.client : Int), .int .u64 (m.seq : Int), .int .u64 (m.pos : Int), .int .i64 m.code, .slice av m.vec.length cv, .string (ByteArray.mk m.body.toArray)], .agg #[.string (ByteArray.mk R'.b.toArray), .int .i64 R'.e]]) (by simp [results, Tryd.results30, go_sem, q0, q1, q2, q3, q4, q5, q6, q7, q8, q9, q10, c0, c1, hlt, hlt6]) rfl ?_
    exact take_mk R' (show (readF 5 m r).1 = R' from (show (r.uint).1 = R' by rw [HRX.out])) (by decide) m rfl HR.out HB9.out (fun h => absurd h HE.out)
  have heb : (R'.e != 0) = false := by simpa using he
  have HE := Go.Lib.hid he
  clear he
  have T7 := HT6.out.setM 6 (.int .u64 (x : Int))
  have d := T5.p3.cell 6 _ rfl
  have fd := T5.p3.free 6
  have HT7 := Go.Lib.hid T7
  clear HT6 T7
  go_wp2_with fail
  have T := HT7.out
  clear HT7 T5 p0 p1 n0 n1 d fd
  generalize ((w5.setCell ⟨w.heap.size + 1, 0, none⟩ (.string (ByteArray.mk R'.b.toArray))).setCell ⟨w.heap.size + 1, 1, none⟩ (.int .i64 R'.e)).setCell ⟨w.heap.size, 6, none⟩ (.int .u64 (x : Int)) = w6 at *
  simp only [List.set] at T
  refine NB.wp_region_t [2, 3] (by kernel_rfl) ?_
  have T9 := T.below (dB w6)
  clear T
  generalize w6.drew = w7 at *
  have a3 := T9.p3; have a4 := T9.p4; have a6 := T9.p6; have a7 := T9.p7; have B7 := T9.bel
  clear T9
  refine NB.t_r 0 [2, 3] rfl (by kernel_rfl) (by kernel_rfl) (by go_simp) _ (fun w' hw' => NB.run_op_load_agg (off := 0) (m := 11) rfl rfl Tryd.underlying36 rfl _ _ _ a3 (by kernel_rfl) (Nat.le_refl _) _ rfl hw') (fun K hK => ?_); go_simp; refine hK _ ?_; clear hK K
  have A6 := (((((((((((a6.set 0 (.int .i64 m.kind)).set 1 (.int .u64 (m.ballot : Int))).set 2 (.int .u64 (m.slot : Int))).set 3 (.int .i64 m.shard)).set 4 (.int .i64 m.seg)).set 5 (.int .u64 (m.client : Int))).set 6 (.int .u64 (x : Int))).set 7 (.int .u64 (m.pos : Int))).set 8 (.int .i64 m.code)).set 9 (.slice av m.vec.length cv)).set 10 (.string (ByteArray.mk m.body.toArray)))
  simp only [List.set] at A6
  have A7 := (((((((((((a7.other (g' := w.heap.size + 2) (by omega) 0 (.int .i64 m.kind)).other (g' := w.heap.size + 2) (by omega) 1 (.int .u64 (m.ballot : Int))).other (g' := w.heap.size + 2) (by omega) 2 (.int .u64 (m.slot : Int))).other (g' := w.heap.size + 2) (by omega) 3 (.int .i64 m.shard)).other (g' := w.heap.size + 2) (by omega) 4 (.int .i64 m.seg)).other (g' := w.heap.size + 2) (by omega) 5 (.int .u64 (m.client : Int))).other (g' := w.heap.size + 2) (by omega) 6 (.int .u64 (x : Int))).other (g' := w.heap.size + 2) (by omega) 7 (.int .u64 (m.pos : Int))).other (g' := w.heap.size + 2) (by omega) 8 (.int .i64 m.code)).other (g' := w.heap.size + 2) (by omega) 9 (.slice av m.vec.length cv)).other (g' := w.heap.size + 2) (by omega) 10 (.string (ByteArray.mk m.body.toArray)))
  have B8 : Below w.heap.size w (((((((((((w7.setCell ⟨w.heap.size + 2, 0, none⟩ (.int .i64 m.kind)).setCell ⟨w.heap.size + 2, 1, none⟩ (.int .u64 (m.ballot : Int))).setCell ⟨w.heap.size + 2, 2, none⟩ (.int .u64 (m.slot : Int))).setCell ⟨w.heap.size + 2, 3, none⟩ (.int .i64 m.shard)).setCell ⟨w.heap.size + 2, 4, none⟩ (.int .i64 m.seg)).setCell ⟨w.heap.size + 2, 5, none⟩ (.int .u64 (m.client : Int))).setCell ⟨w.heap.size + 2, 6, none⟩ (.int .u64 (x : Int))).setCell ⟨w.heap.size + 2, 7, none⟩ (.int .u64 (m.pos : Int))).setCell ⟨w.heap.size + 2, 8, none⟩ (.int .i64 m.code)).setCell ⟨w.heap.size + 2, 9, none⟩ (.slice av m.vec.length cv)).setCell ⟨w.heap.size + 2, 10, none⟩ (.string (ByteArray.mk m.body.toArray))) := (((((((((((B7.setCell (p := ⟨w.heap.size + 2, 0, none⟩) (by simp) (.int .i64 m.kind)).setCell (p := ⟨w.heap.size + 2, 1, none⟩) (by simp) (.int .u64 (m.ballot : Int))).setCell (p := ⟨w.heap.size + 2, 2, none⟩) (by simp) (.int .u64 (m.slot : Int))).setCell (p := ⟨w.heap.size + 2, 3, none⟩) (by simp) (.int .i64 m.shard)).setCell (p := ⟨w.heap.size + 2, 4, none⟩) (by simp) (.int .i64 m.seg)).setCell (p := ⟨w.heap.size + 2, 5, none⟩) (by simp) (.int .u64 (m.client : Int))).setCell (p := ⟨w.heap.size + 2, 6, none⟩) (by simp) (.int .u64 (x : Int))).setCell (p := ⟨w.heap.size + 2, 7, none⟩) (by simp) (.int .u64 (m.pos : Int))).setCell (p := ⟨w.heap.size + 2, 8, none⟩) (by simp) (.int .i64 m.code)).setCell (p := ⟨w.heap.size + 2, 9, none⟩) (by simp) (.slice av m.vec.length cv)).setCell (p := ⟨w.heap.size + 2, 10, none⟩) (by simp) (.string (ByteArray.mk m.body.toArray)))
  have HA6 := Go.Lib.hid A6; have HA7 := Go.Lib.hid A7; have HB8 := Go.Lib.hid B8
  clear A6 A7 B8 B7 a7
  have q0 := a6.cell 0 _ rfl
  have g0 := a6.free 0
  have q1 := a6.cell 1 _ rfl
  have g1 := a6.free 1
  have q2 := a6.cell 2 _ rfl
  have g2 := a6.free 2
  have q3 := a6.cell 3 _ rfl
  have g3 := a6.free 3
  have q4 := a6.cell 4 _ rfl
  have g4 := a6.free 4
  have q5 := a6.cell 5 _ rfl
  have g5 := a6.free 5
  have q6 := a6.cell 6 _ rfl
  have g6 := a6.free 6
  have q7 := a6.cell 7 _ rfl
  have g7 := a6.free 7
  have q8 := a6.cell 8 _ rfl
  have g8 := a6.free 8
  have q9 := a6.cell 9 _ rfl
  have g9 := a6.free 9
  have q10 := a6.cell 10 _ rfl
  have g10 := a6.free 10
  have A4 := (((((((((((a4.other (g' := w.heap.size + 2) (by omega) 0 (.int .i64 m.kind)).other (g' := w.heap.size + 2) (by omega) 1 (.int .u64 (m.ballot : Int))).other (g' := w.heap.size + 2) (by omega) 2 (.int .u64 (m.slot : Int))).other (g' := w.heap.size + 2) (by omega) 3 (.int .i64 m.shard)).other (g' := w.heap.size + 2) (by omega) 4 (.int .i64 m.seg)).other (g' := w.heap.size + 2) (by omega) 5 (.int .u64 (m.client : Int))).other (g' := w.heap.size + 2) (by omega) 6 (.int .u64 (x : Int))).other (g' := w.heap.size + 2) (by omega) 7 (.int .u64 (m.pos : Int))).other (g' := w.heap.size + 2) (by omega) 8 (.int .i64 m.code)).other (g' := w.heap.size + 2) (by omega) 9 (.slice av m.vec.length cv)).other (g' := w.heap.size + 2) (by omega) 10 (.string (ByteArray.mk m.body.toArray)))
  have HA4 := Go.Lib.hid A4
  clear A4
  refine NB.t_rs 1 2 rfl rfl (by kernel_rfl) (by kernel_rfl) (by kernel_rfl) (by kernel_rfl) (by kernel_rfl) (by intro _ _ h; cases h) (by intro _ _ h; cases h) (by go_simp) _ (by go_simp) (NB.run_op_load_agg (off := 0) (m := 2) rfl rfl Tryd.underlying74 rfl _ _ _ a4 (by kernel_rfl) (Nat.le_refl _) _ rfl (Below.refl _ w7)) (fun Q' hK => ?_)
  go_wp2
  refine hK _ _ (NB.run_op_load_agg (off := 0) (m := 2) rfl rfl Tryd.underlying74 rfl _ _ _ HA4.out (by kernel_rfl) (Nat.le_refl _) _ rfl (Below.refl _ _)) ?_
  clear hK Q' HA4 q0 g0 q1 g1 q2 g2 q3 g3 q4 g4 q5 g5 q6 g6 q7 g7 q8 g8 q9 g9 q10 g10
  generalize (((((((((((w7.setCell ⟨w.heap.size + 2, 0, none⟩ (.int .i64 m.kind)).setCell ⟨w.heap.size + 2, 1, none⟩ (.int .u64 (m.ballot : Int))).setCell ⟨w.heap.size + 2, 2, none⟩ (.int .u64 (m.slot : Int))).setCell ⟨w.heap.size + 2, 3, none⟩ (.int .i64 m.shard)).setCell ⟨w.heap.size + 2, 4, none⟩ (.int .i64 m.seg)).setCell ⟨w.heap.size + 2, 5, none⟩ (.int .u64 (m.client : Int))).setCell ⟨w.heap.size + 2, 6, none⟩ (.int .u64 (x : Int))).setCell ⟨w.heap.size + 2, 7, none⟩ (.int .u64 (m.pos : Int))).setCell ⟨w.heap.size + 2, 8, none⟩ (.int .i64 m.code)).setCell ⟨w.heap.size + 2, 9, none⟩ (.slice av m.vec.length cv)).setCell ⟨w.heap.size + 2, 10, none⟩ (.string (ByteArray.mk m.body.toArray))) = w8 at *
  have A7 := HA7.out
  have F6 := HA6.out.other (g' := w.heap.size + 3) (by omega) 0 (.string (ByteArray.mk R'.b.toArray))
  have F6 := F6.other (g' := w.heap.size + 3) (by omega) 1 (.int .i64 R'.e)
  have F7 := (A7.set 0 (.string (ByteArray.mk R'.b.toArray))).set 1 (.int .i64 R'.e)
  simp only [List.set] at F7
  have B9 := (HB8.out.setCell (p := ⟨w.heap.size + 3, 0, none⟩) (by simp) (.string (ByteArray.mk R'.b.toArray))).setCell (p := ⟨w.heap.size + 3, 1, none⟩) (by simp) (.int .i64 R'.e)
  have HF6 := Go.Lib.hid F6; have HF7 := Go.Lib.hid F7; have HB9 := Go.Lib.hid B9
  clear F6 F7 B9
  obtain ⟨q0, q1, g0, g1⟩ := NB.rw2 A7
  refine NB.t_w 3 rfl (by kernel_rfl) (by kernel_rfl) rfl (fun Q' hK => ?_)
  go_wp2
  clear q0 q1 g0 g1 A7 HA6 HA7 HB8
  generalize ((w8.setCell ⟨w.heap.size + 3, 0, none⟩ (.string (ByteArray.mk R'.b.toArray))).setCell ⟨w.heap.size + 3, 1, none⟩ (.int .i64 R'.e)) = w9 at *
  refine NB.t_end (by kernel_rfl) ?_
  go_wp2
  have F6 := HF6.out; have F7 := HF7.out
  have q0 := F6.cell 0 _ rfl
  have q1 := F6.cell 1 _ rfl
  have q2 := F6.cell 2 _ rfl
  have q3 := F6.cell 3 _ rfl
  have q4 := F6.cell 4 _ rfl
  have q5 := F6.cell 5 _ rfl
  have q6 := F6.cell 6 _ rfl
  have q7 := F6.cell 7 _ rfl
  have q8 := F6.cell 8 _ rfl
  have q9 := F6.cell 9 _ rfl
  have q10 := F6.cell 10 _ rfl
  have c0 := F7.cell 0 _ rfl
  have c1 := F7.cell 1 _ rfl
  have hlt := F7.lt
  have hlt6 := F6.lt
  refine bodyPost_ret (v := .tuple #[.agg #[.int .i64 m.kind, .int .u64 (m.ballot : Int), .int .u64 (m.slot : Int), .int .i64 m.shard, .int .i64 m.seg, .int .u64 (m.client : Int), .int .u64 (x : Int), .int .u64 (m.pos : Int), .int .i64 m.code, .slice av m.vec.length cv, .string (ByteArray.mk m.body.toArray)], .agg #[.string (ByteArray.mk R'.b.toArray), .int .i64 R'.e]]) (by simp [results, Tryd.results30, go_sem, q0, q1, q2, q3, q4, q5, q6, q7, q8, q9, q10, c0, c1, hlt, hlt6]) rfl ?_
  exact take_mk R' (show (readF 5 m r).1 = R' from (show (r.uint).1 = R' by rw [HRX.out])) (by decide) { m with seq := x } rfl HR.out HB9.out (fun _ => by show _ = { m with seq := (r.uint).2 }; rw [HRX.out])

set_option maxRecDepth 100000 in
set_option maxHeartbeats 8000000 in
theorem take_6 (w : World) (m : Mm) (av : Option Addr) (cv : Nat) (r : Rr) (hR : RdU w av m.vec.length cv m.vec) (hl : r.b.length ≤ 100000000) :
    Calls Tryd.prog 30 #[.agg #[.int .i64 m.kind, .int .u64 (m.ballot : Int), .int .u64 (m.slot : Int), .int .i64 m.shard, .int .i64 m.seg, .int .u64 (m.client : Int), .int .u64 (m.seq : Int), .int .u64 (m.pos : Int), .int .i64 m.code, .slice av m.vec.length cv, .string (ByteArray.mk m.body.toArray)], .agg #[.string (ByteArray.mk r.b.toArray), .int .i64 r.e], .int .u8 112] w (TakeE w 6 m av cv r) := by
  have ctr := fun w => refRead_any w r hl
  unfold refR RefRU at ctr
  obtain ⟨R', x, hrx⟩ : ∃ R' x, r.uint = (R', x) := ⟨_, _, rfl⟩
  rw [hrx] at ctr
  simp only at ctr
  have HC := Go.Lib.hid ctr; have HRX := Go.Lib.hid hrx
  clear ctr hrx
  have T0 := TK.start w (.int .i64 m.kind) (.int .u64 (m.ballot : Int)) (.int .u64 (m.slot : Int)) (.int .i64 m.shard) (.int .i64 m.seg) (.int .u64 (m.client : Int)) (.int .u64 (m.seq : Int)) (.int .u64 (m.pos : Int)) (.int .i64 m.code) (.slice av m.vec.length cv) (.string (ByteArray.mk m.body.toArray)) (.string (ByteArray.mk r.b.toArray)) (.int .i64 r.e)
  have HR := Go.Lib.hid hR
  clear hR
  go_enter Tryd.func30, Tryd.ntmps30
  go_wp2_with fail
  generalize ((((w.alloc (.cells #[.int .i64 m.kind, .int .u64 (m.ballot : Int), .int .u64 (m.slot : Int), .int .i64 m.shard, .int .i64 m.seg, .int .u64 (m.client : Int), .int .u64 (m.seq : Int), .int .u64 (m.pos : Int), .int .i64 m.code, .slice av m.vec.length cv, .string (ByteArray.mk m.body.toArray)] 36)).alloc (.cells #[.string (ByteArray.mk r.b.toArray), .int .i64 r.e] 74)).alloc (.cells #[.int .i64 0, .int .u64 0, .int .u64 0, .int .i64 0, .int .i64 0, .int .u64 0, .int .u64 0, .int .u64 0, .int .i64 0, .slice none 0 0, .string (ByteArray.mk #[])] 36)).alloc (.cells #[.string (ByteArray.mk #[]), .int .i64 0] 74)) = w4 at *
  refine (HC.out _).mono ?_
  rintro e w5 ⟨rfl, hb5⟩
  have T5 := T0.below hb5
  clear T0 hb5
  obtain ⟨p0, p1, n0, n1⟩ := NB.rw2 T5.p4
  have T6 := (T5.setR 0 (.string (ByteArray.mk R'.b.toArray))).setR 1 (.int .i64 R'.e)
  simp only [List.set] at T6
  have HT6 := Go.Lib.hid T6
  clear T6 HC
  by_cases he : R'.e = 0
  case neg =>
    have heb : (R'.e != 0) = true := by simpa using he
    have HE := Go.Lib.hid he
    clear he
    go_wp2_with fail
    have T := HT6.out
    clear HT6 T5 p0 p1 n0 n1
    generalize ((w5.setCell ⟨w.heap.size + 1, 0, none⟩ (.string (ByteArray.mk R'.b.toArray))).setCell ⟨w.heap.size + 1, 1, none⟩ (.int .i64 R'.e)) = w6 at *
    refine NB.wp_region_t [2, 3] (by kernel_rfl) ?_
    have T9 := T.below (dB w6)
    clear T
    generalize w6.drew = w7 at *
    have a3 := T9.p3; have a4 := T9.p4; have a6 := T9.p6; have a7 := T9.p7; have B7 := T9.bel
    clear T9
    refine NB.t_r 0 [2, 3] rfl (by kernel_rfl) (by kernel_rfl) (by go_simp) _ (fun w' hw' => NB.run_op_load_agg (off := 0) (m := 11) rfl rfl Tryd.underlying36 rfl _ _ _ a3 (by kernel_rfl) (Nat.le_refl _) _ rfl hw') (fun K hK => ?_); go_simp; refine hK _ ?_; clear hK K
    have A6 := (((((((((((a6.set 0 (.int .i64 m.kind)).set 1 (.int .u64 (m.ballot : Int))).set 2 (.int .u64 (m.slot : Int))).set 3 (.int .i64 m.shard)).set 4 (.int .i64 m.seg)).set 5 (.int .u64 (m.client : Int))).set 6 (.int .u64 (m.seq : Int))).set 7 (.int .u64 (m.pos : Int))).set 8 (.int .i64 m.code)).set 9 (.slice av m.vec.length cv)).set 10 (.string (ByteArray.mk m.body.toArray)))
    simp only [List.set] at A6
    have A7 := (((((((((((a7.other (g' := w.heap.size + 2) (by omega) 0 (.int .i64 m.kind)).other (g' := w.heap.size + 2) (by omega) 1 (.int .u64 (m.ballot : Int))).other (g' := w.heap.size + 2) (by omega) 2 (.int .u64 (m.slot : Int))).other (g' := w.heap.size + 2) (by omega) 3 (.int .i64 m.shard)).other (g' := w.heap.size + 2) (by omega) 4 (.int .i64 m.seg)).other (g' := w.heap.size + 2) (by omega) 5 (.int .u64 (m.client : Int))).other (g' := w.heap.size + 2) (by omega) 6 (.int .u64 (m.seq : Int))).other (g' := w.heap.size + 2) (by omega) 7 (.int .u64 (m.pos : Int))).other (g' := w.heap.size + 2) (by omega) 8 (.int .i64 m.code)).other (g' := w.heap.size + 2) (by omega) 9 (.slice av m.vec.length cv)).other (g' := w.heap.size + 2) (by omega) 10 (.string (ByteArray.mk m.body.toArray)))
    have B8 : Below w.heap.size w (((((((((((w7.setCell ⟨w.heap.size + 2, 0, none⟩ (.int .i64 m.kind)).setCell ⟨w.heap.size + 2, 1, none⟩ (.int .u64 (m.ballot : Int))).setCell ⟨w.heap.size + 2, 2, none⟩ (.int .u64 (m.slot : Int))).setCell ⟨w.heap.size + 2, 3, none⟩ (.int .i64 m.shard)).setCell ⟨w.heap.size + 2, 4, none⟩ (.int .i64 m.seg)).setCell ⟨w.heap.size + 2, 5, none⟩ (.int .u64 (m.client : Int))).setCell ⟨w.heap.size + 2, 6, none⟩ (.int .u64 (m.seq : Int))).setCell ⟨w.heap.size + 2, 7, none⟩ (.int .u64 (m.pos : Int))).setCell ⟨w.heap.size + 2, 8, none⟩ (.int .i64 m.code)).setCell ⟨w.heap.size + 2, 9, none⟩ (.slice av m.vec.length cv)).setCell ⟨w.heap.size + 2, 10, none⟩ (.string (ByteArray.mk m.body.toArray))) := (((((((((((B7.setCell (p := ⟨w.heap.size + 2, 0, none⟩) (by simp) (.int .i64 m.kind)).setCell (p := ⟨w.heap.size + 2, 1, none⟩) (by simp) (.int .u64 (m.ballot : Int))).setCell (p := ⟨w.heap.size + 2, 2, none⟩) (by simp) (.int .u64 (m.slot : Int))).setCell (p := ⟨w.heap.size + 2, 3, none⟩) (by simp) (.int .i64 m.shard)).setCell (p := ⟨w.heap.size + 2, 4, none⟩) (by simp) (.int .i64 m.seg)).setCell (p := ⟨w.heap.size + 2, 5, none⟩) (by simp) (.int .u64 (m.client : Int))).setCell (p := ⟨w.heap.size + 2, 6, none⟩) (by simp) (.int .u64 (m.seq : Int))).setCell (p := ⟨w.heap.size + 2, 7, none⟩) (by simp) (.int .u64 (m.pos : Int))).setCell (p := ⟨w.heap.size + 2, 8, none⟩) (by simp) (.int .i64 m.code)).setCell (p := ⟨w.heap.size + 2, 9, none⟩) (by simp) (.slice av m.vec.length cv)).setCell (p := ⟨w.heap.size + 2, 10, none⟩) (by simp) (.string (ByteArray.mk m.body.toArray)))
    have HA6 := Go.Lib.hid A6; have HA7 := Go.Lib.hid A7; have HB8 := Go.Lib.hid B8
    clear A6 A7 B8 B7 a7
    have q0 := a6.cell 0 _ rfl
    have g0 := a6.free 0
    have q1 := a6.cell 1 _ rfl
    have g1 := a6.free 1
    have q2 := a6.cell 2 _ rfl
    have g2 := a6.free 2
    have q3 := a6.cell 3 _ rfl
    have g3 := a6.free 3
    have q4 := a6.cell 4 _ rfl
    have g4 := a6.free 4
    have q5 := a6.cell 5 _ rfl
    have g5 := a6.free 5
    have q6 := a6.cell 6 _ rfl
    have g6 := a6.free 6
    have q7 := a6.cell 7 _ rfl
    have g7 := a6.free 7
    have q8 := a6.cell 8 _ rfl
    have g8 := a6.free 8
    have q9 := a6.cell 9 _ rfl
    have g9 := a6.free 9
    have q10 := a6.cell 10 _ rfl
    have g10 := a6.free 10
    have A4 := (((((((((((a4.other (g' := w.heap.size + 2) (by omega) 0 (.int .i64 m.kind)).other (g' := w.heap.size + 2) (by omega) 1 (.int .u64 (m.ballot : Int))).other (g' := w.heap.size + 2) (by omega) 2 (.int .u64 (m.slot : Int))).other (g' := w.heap.size + 2) (by omega) 3 (.int .i64 m.shard)).other (g' := w.heap.size + 2) (by omega) 4 (.int .i64 m.seg)).other (g' := w.heap.size + 2) (by omega) 5 (.int .u64 (m.client : Int))).other (g' := w.heap.size + 2) (by omega) 6 (.int .u64 (m.seq : Int))).other (g' := w.heap.size + 2) (by omega) 7 (.int .u64 (m.pos : Int))).other (g' := w.heap.size + 2) (by omega) 8 (.int .i64 m.code)).other (g' := w.heap.size + 2) (by omega) 9 (.slice av m.vec.length cv)).other (g' := w.heap.size + 2) (by omega) 10 (.string (ByteArray.mk m.body.toArray)))
    have HA4 := Go.Lib.hid A4
    clear A4
    refine NB.t_rs 1 2 rfl rfl (by kernel_rfl) (by kernel_rfl) (by kernel_rfl) (by kernel_rfl) (by kernel_rfl) (by intro _ _ h; cases h) (by intro _ _ h; cases h) (by go_simp) _ (by go_simp) (NB.run_op_load_agg (off := 0) (m := 2) rfl rfl Tryd.underlying74 rfl _ _ _ a4 (by kernel_rfl) (Nat.le_refl _) _ rfl (Below.refl _ w7)) (fun Q' hK => ?_)
    go_wp2
    refine hK _ _ (NB.run_op_load_agg (off := 0) (m := 2) rfl rfl Tryd.underlying74 rfl _ _ _ HA4.out (by kernel_rfl) (Nat.le_refl _) _ rfl (Below.refl _ _)) ?_
    clear hK Q' HA4 q0 g0 q1 g1 q2 g2 q3 g3 q4 g4 q5 g5 q6 g6 q7 g7 q8 g8 q9 g9 q10 g10
    generalize (((((((((((w7.setCell ⟨w.heap.size + 2, 0, none⟩ (.int .i64 m.kind)).setCell ⟨w.heap.size + 2, 1, none⟩ (.int .u64 (m.ballot : Int))).setCell ⟨w.heap.size + 2, 2, none⟩ (.int .u64 (m.slot : Int))).setCell ⟨w.heap.size + 2, 3, none⟩ (.int .i64 m.shard)).setCell ⟨w.heap.size + 2, 4, none⟩ (.int .i64 m.seg)).setCell ⟨w.heap.size + 2, 5, none⟩ (.int .u64 (m.client : Int))).setCell ⟨w.heap.size + 2, 6, none⟩ (.int .u64 (m.seq : Int))).setCell ⟨w.heap.size + 2, 7, none⟩ (.int .u64 (m.pos : Int))).setCell ⟨w.heap.size + 2, 8, none⟩ (.int .i64 m.code)).setCell ⟨w.heap.size + 2, 9, none⟩ (.slice av m.vec.length cv)).setCell ⟨w.heap.size + 2, 10, none⟩ (.string (ByteArray.mk m.body.toArray))) = w8 at *
    have A7 := HA7.out
    have F6 := HA6.out.other (g' := w.heap.size + 3) (by omega) 0 (.string (ByteArray.mk R'.b.toArray))
    have F6 := F6.other (g' := w.heap.size + 3) (by omega) 1 (.int .i64 R'.e)
    have F7 := (A7.set 0 (.string (ByteArray.mk R'.b.toArray))).set 1 (.int .i64 R'.e)
    simp only [List.set] at F7
    have B9 := (HB8.out.setCell (p := ⟨w.heap.size + 3, 0, none⟩) (by simp) (.string (ByteArray.mk R'.b.toArray))).setCell (p := ⟨w.heap.size + 3, 1, none⟩) (by simp) (.int .i64 R'.e)
    have HF6 := Go.Lib.hid F6; have HF7 := Go.Lib.hid F7; have HB9 := Go.Lib.hid B9
    clear F6 F7 B9
    obtain ⟨q0, q1, g0, g1⟩ := NB.rw2 A7
    refine NB.t_w 3 rfl (by kernel_rfl) (by kernel_rfl) rfl (fun Q' hK => ?_)
    go_wp2
    clear q0 q1 g0 g1 A7 HA6 HA7 HB8
    generalize ((w8.setCell ⟨w.heap.size + 3, 0, none⟩ (.string (ByteArray.mk R'.b.toArray))).setCell ⟨w.heap.size + 3, 1, none⟩ (.int .i64 R'.e)) = w9 at *
    refine NB.t_end (by kernel_rfl) ?_
    go_wp2
    have F6 := HF6.out; have F7 := HF7.out
    have q0 := F6.cell 0 _ rfl
    have q1 := F6.cell 1 _ rfl
    have q2 := F6.cell 2 _ rfl
    have q3 := F6.cell 3 _ rfl
    have q4 := F6.cell 4 _ rfl
    have q5 := F6.cell 5 _ rfl
    have q6 := F6.cell 6 _ rfl
    have q7 := F6.cell 7 _ rfl
    have q8 := F6.cell 8 _ rfl
    have q9 := F6.cell 9 _ rfl
    have q10 := F6.cell 10 _ rfl
    have c0 := F7.cell 0 _ rfl
    have c1 := F7.cell 1 _ rfl
    have hlt := F7.lt
    have hlt6 := F6.lt
    refine bodyPost_ret (v := .tuple #[.agg #[.int .i64 m.kind, .int .u64 (m.ballot : Int), .int .u64 (m.slot : Int), .int .i64 m.shard, .int .i64 m.seg, .int .u64 (m.client : Int), .int .u64 (m.seq : Int), .int .u64 (m.pos : Int), .int .i64 m.code, .slice av m.vec.length cv, .string (ByteArray.mk m.body.toArray)], .agg #[.string (ByteArray.mk R'.b.toArray), .int .i64 R'.e]]) (by simp [results, Tryd.results30, go_sem, q0, q1, q2, q3, q4, q5, q6, q7, q8, q9, q10, c0, c1, hlt, hlt6]) rfl ?_
    exact take_mk R' (show (readF 6 m r).1 = R' from (show (r.uint).1 = R' by rw [HRX.out])) (by decide) m rfl HR.out HB9.out (fun h => absurd h HE.out)
  have heb : (R'.e != 0) = false := by simpa using he
  have HE := Go.Lib.hid he
  clear he
  have T7 := HT6.out.setM 7 (.int .u64 (x : Int))
  have d := T5.p3.cell 7 _ rfl
  have fd := T5.p3.free 7
  have HT7 := Go.Lib.hid T7
  clear HT6 T7
  go_wp2_with fail
  have T := HT7.out
  clear HT7 T5 p0 p1 n0 n1 d fd
  generalize ((w5.setCell ⟨w.heap.size + 1, 0, none⟩ (.string (ByteArray.mk R'.b.toArray))).setCell ⟨w.heap.size + 1, 1, none⟩ (.int .i64 R'.e)).setCell ⟨w.heap.size, 7, none⟩ (.int .u64 (x : Int)) = w6 at *
  simp only [List.set] at T
  refine NB.wp_region_t [2, 3] (by kernel_rfl) ?_
  have T9 := T.below (dB w6)
  clear T
  generalize w6.drew = w7 at *
  have a3 := T9.p3; have a4 := T9.p4; have a6 := T9.p6; have a7 := T9.p7; have B7 := T9.bel
  clear T9
  refine NB.t_r 0 [2, 3] rfl (by kernel_rfl) (by kernel_rfl) (by go_simp) _ (fun w' hw' => NB.run_op_load_agg (off := 0) (m := 11) rfl rfl Tryd.underlying36 rfl _ _ _ a3 (by kernel_rfl) (Nat.le_refl _) _ rfl hw') (fun K hK => ?_); go_simp; refine hK _ ?_; clear hK K
  have A6 := (((((((((((a6.set 0 (.int .i64 m.kind)).set 1 (.int .u64 (m.ballot : Int))).set 2 (.int .u64 (m.slot : Int))).set 3 (.int .i64 m.shard)).set 4 (.int .i64 m.seg)).set 5 (.int .u64 (m.client : Int))).set 6 (.int .u64 (m.seq : Int))).set 7 (.int .u64 (x : Int))).set 8 (.int .i64 m.code)).set 9 (.slice av m.vec.length cv)).set 10 (.string (ByteArray.mk m.body.toArray)))
  simp only [List.set] at A6
  have A7 := (((((((((((a7.other (g' := w.heap.size + 2) (by omega) 0 (.int .i64 m.kind)).other (g' := w.heap.size + 2) (by omega) 1 (.int .u64 (m.ballot : Int))).other (g' := w.heap.size + 2) (by omega) 2 (.int .u64 (m.slot : Int))).other (g' := w.heap.size + 2) (by omega) 3 (.int .i64 m.shard)).other (g' := w.heap.size + 2) (by omega) 4 (.int .i64 m.seg)).other (g' := w.heap.size + 2) (by omega) 5 (.int .u64 (m.client : Int))).other (g' := w.heap.size + 2) (by omega) 6 (.int .u64 (m.seq : Int))).other (g' := w.heap.size + 2) (by omega) 7 (.int .u64 (x : Int))).other (g' := w.heap.size + 2) (by omega) 8 (.int .i64 m.code)).other (g' := w.heap.size + 2) (by omega) 9 (.slice av m.vec.length cv)).other (g' := w.heap.size + 2) (by omega) 10 (.string (ByteArray.mk m.body.toArray)))
  have B8 : Below w.heap.size w (((((((((((w7.setCell ⟨w.heap.size + 2, 0, none⟩ (.int .i64 m.kind)).setCell ⟨w.heap.size + 2, 1, none⟩ (.int .u64 (m.ballot : Int))).setCell ⟨w.heap.size + 2, 2, none⟩ (.int .u64 (m.slot : Int))).setCell ⟨w.heap.size + 2, 3, none⟩ (.int .i64 m.shard)).setCell ⟨w.heap.size + 2, 4, none⟩ (.int .i64 m.seg)).setCell ⟨w.heap.size + 2, 5, none⟩ (.int .u64 (m.client : Int))).setCell ⟨w.heap.size + 2, 6, none⟩ (.int .u64 (m.seq : Int))).setCell ⟨w.heap.size + 2, 7, none⟩ (.int .u64 (x : Int))).setCell ⟨w.heap.size + 2, 8, none⟩ (.int .i64 m.code)).setCell ⟨w.heap.size + 2, 9, none⟩ (.slice av m.vec.length cv)).setCell ⟨w.heap.size + 2, 10, none⟩ (.string (ByteArray.mk m.body.toArray))) := (((((((((((B7.setCell (p := ⟨w.heap.size + 2, 0, none⟩) (by simp) (.int .i64 m.kind)).setCell (p := ⟨w.heap.size + 2, 1, none⟩) (by simp) (.int .u64 (m.ballot : Int))).setCell (p := ⟨w.heap.size + 2, 2, none⟩) (by simp) (.int .u64 (m.slot : Int))).setCell (p := ⟨w.heap.size + 2, 3, none⟩) (by simp) (.int .i64 m.shard)).setCell (p := ⟨w.heap.size + 2, 4, none⟩) (by simp) (.int .i64 m.seg)).setCell (p := ⟨w.heap.size + 2, 5, none⟩) (by simp) (.int .u64 (m.client : Int))).setCell (p := ⟨w.heap.size + 2, 6, none⟩) (by simp) (.int .u64 (m.seq : Int))).setCell (p := ⟨w.heap.size + 2, 7, none⟩) (by simp) (.int .u64 (x : Int))).setCell (p := ⟨w.heap.size + 2, 8, none⟩) (by simp) (.int .i64 m.code)).setCell (p := ⟨w.heap.size + 2, 9, none⟩) (by simp) (.slice av m.vec.length cv)).setCell (p := ⟨w.heap.size + 2, 10, none⟩) (by simp) (.string (ByteArray.mk m.body.toArray)))
  have HA6 := Go.Lib.hid A6; have HA7 := Go.Lib.hid A7; have HB8 := Go.Lib.hid B8
  clear A6 A7 B8 B7 a7
  have q0 := a6.cell 0 _ rfl
  have g0 := a6.free 0
  have q1 := a6.cell 1 _ rfl
  have g1 := a6.free 1
  have q2 := a6.cell 2 _ rfl
  have g2 := a6.free 2
  have q3 := a6.cell 3 _ rfl
  have g3 := a6.free 3
  have q4 := a6.cell 4 _ rfl
  have g4 := a6.free 4
  have q5 := a6.cell 5 _ rfl
  have g5 := a6.free 5
  have q6 := a6.cell 6 _ rfl
  have g6 := a6.free 6
  have q7 := a6.cell 7 _ rfl
  have g7 := a6.free 7
  have q8 := a6.cell 8 _ rfl
  have g8 := a6.free 8
  have q9 := a6.cell 9 _ rfl
  have g9 := a6.free 9
  have q10 := a6.cell 10 _ rfl
  have g10 := a6.free 10
  have A4 := (((((((((((a4.other (g' := w.heap.size + 2) (by omega) 0 (.int .i64 m.kind)).other (g' := w.heap.size + 2) (by omega) 1 (.int .u64 (m.ballot : Int))).other (g' := w.heap.size + 2) (by omega) 2 (.int .u64 (m.slot : Int))).other (g' := w.heap.size + 2) (by omega) 3 (.int .i64 m.shard)).other (g' := w.heap.size + 2) (by omega) 4 (.int .i64 m.seg)).other (g' := w.heap.size + 2) (by omega) 5 (.int .u64 (m.client : Int))).other (g' := w.heap.size + 2) (by omega) 6 (.int .u64 (m.seq : Int))).other (g' := w.heap.size + 2) (by omega) 7 (.int .u64 (x : Int))).other (g' := w.heap.size + 2) (by omega) 8 (.int .i64 m.code)).other (g' := w.heap.size + 2) (by omega) 9 (.slice av m.vec.length cv)).other (g' := w.heap.size + 2) (by omega) 10 (.string (ByteArray.mk m.body.toArray)))
  have HA4 := Go.Lib.hid A4
  clear A4
  refine NB.t_rs 1 2 rfl rfl (by kernel_rfl) (by kernel_rfl) (by kernel_rfl) (by kernel_rfl) (by kernel_rfl) (by intro _ _ h; cases h) (by intro _ _ h; cases h) (by go_simp) _ (by go_simp) (NB.run_op_load_agg (off := 0) (m := 2) rfl rfl Tryd.underlying74 rfl _ _ _ a4 (by kernel_rfl) (Nat.le_refl _) _ rfl (Below.refl _ w7)) (fun Q' hK => ?_)
  go_wp2
  refine hK _ _ (NB.run_op_load_agg (off := 0) (m := 2) rfl rfl Tryd.underlying74 rfl _ _ _ HA4.out (by kernel_rfl) (Nat.le_refl _) _ rfl (Below.refl _ _)) ?_
  clear hK Q' HA4 q0 g0 q1 g1 q2 g2 q3 g3 q4 g4 q5 g5 q6 g6 q7 g7 q8 g8 q9 g9 q10 g10
  generalize (((((((((((w7.setCell ⟨w.heap.size + 2, 0, none⟩ (.int .i64 m.kind)).setCell ⟨w.heap.size + 2, 1, none⟩ (.int .u64 (m.ballot : Int))).setCell ⟨w.heap.size + 2, 2, none⟩ (.int .u64 (m.slot : Int))).setCell ⟨w.heap.size + 2, 3, none⟩ (.int .i64 m.shard)).setCell ⟨w.heap.size + 2, 4, none⟩ (.int .i64 m.seg)).setCell ⟨w.heap.size + 2, 5, none⟩ (.int .u64 (m.client : Int))).setCell ⟨w.heap.size + 2, 6, none⟩ (.int .u64 (m.seq : Int))).setCell ⟨w.heap.size + 2, 7, none⟩ (.int .u64 (x : Int))).setCell ⟨w.heap.size + 2, 8, none⟩ (.int .i64 m.code)).setCell ⟨w.heap.size + 2, 9, none⟩ (.slice av m.vec.length cv)).setCell ⟨w.heap.size + 2, 10, none⟩ (.string (ByteArray.mk m.body.toArray))) = w8 at *
  have A7 := HA7.out
  have F6 := HA6.out.other (g' := w.heap.size + 3) (by omega) 0 (.string (ByteArray.mk R'.b.toArray))
  have F6 := F6.other (g' := w.heap.size + 3) (by omega) 1 (.int .i64 R'.e)
  have F7 := (A7.set 0 (.string (ByteArray.mk R'.b.toArray))).set 1 (.int .i64 R'.e)
  simp only [List.set] at F7
  have B9 := (HB8.out.setCell (p := ⟨w.heap.size + 3, 0, none⟩) (by simp) (.string (ByteArray.mk R'.b.toArray))).setCell (p := ⟨w.heap.size + 3, 1, none⟩) (by simp) (.int .i64 R'.e)
  have HF6 := Go.Lib.hid F6; have HF7 := Go.Lib.hid F7; have HB9 := Go.Lib.hid B9
  clear F6 F7 B9
  obtain ⟨q0, q1, g0, g1⟩ := NB.rw2 A7
  refine NB.t_w 3 rfl (by kernel_rfl) (by kernel_rfl) rfl (fun Q' hK => ?_)
  go_wp2
  clear q0 q1 g0 g1 A7 HA6 HA7 HB8
  generalize ((w8.setCell ⟨w.heap.size + 3, 0, none⟩ (.string (ByteArray.mk R'.b.toArray))).setCell ⟨w.heap.size + 3, 1, none⟩ (.int .i64 R'.e)) = w9 at *
  refine NB.t_end (by kernel_rfl) ?_
  go_wp2
  have F6 := HF6.out; have F7 := HF7.out
  have q0 := F6.cell 0 _ rfl
  have q1 := F6.cell 1 _ rfl
  have q2 := F6.cell 2 _ rfl
  have q3 := F6.cell 3 _ rfl
  have q4 := F6.cell 4 _ rfl
  have q5 := F6.cell 5 _ rfl
  have q6 := F6.cell 6 _ rfl
  have q7 := F6.cell 7 _ rfl
  have q8 := F6.cell 8 _ rfl
  have q9 := F6.cell 9 _ rfl
  have q10 := F6.cell 10 _ rfl
  have c0 := F7.cell 0 _ rfl
  have c1 := F7.cell 1 _ rfl
  have hlt := F7.lt
  have hlt6 := F6.lt
  refine bodyPost_ret (v := .tuple #[.agg #[.int .i64 m.kind, .int .u64 (m.ballot : Int), .int .u64 (m.slot : Int), .int .i64 m.shard, .int .i64 m.seg, .int .u64 (m.client : Int), .int .u64 (m.seq : Int), .int .u64 (x : Int), .int .i64 m.code, .slice av m.vec.length cv, .string (ByteArray.mk m.body.toArray)], .agg #[.string (ByteArray.mk R'.b.toArray), .int .i64 R'.e]]) (by simp [results, Tryd.results30, go_sem, q0, q1, q2, q3, q4, q5, q6, q7, q8, q9, q10, c0, c1, hlt, hlt6]) rfl ?_
  exact take_mk R' (show (readF 6 m r).1 = R' from (show (r.uint).1 = R' by rw [HRX.out])) (by decide) { m with pos := x } rfl HR.out HB9.out (fun _ => by show _ = { m with pos := (r.uint).2 }; rw [HRX.out])

set_option maxRecDepth 100000 in
set_option maxHeartbeats 8000000 in
theorem take_2 (w : World) (m : Mm) (av : Option Addr) (cv : Nat) (r : Rr) (hR : RdU w av m.vec.length cv m.vec) (hl : r.b.length ≤ 100000000) :
    Calls Tryd.prog 30 #[.agg #[.int .i64 m.kind, .int .u64 (m.ballot : Int), .int .u64 (m.slot : Int), .int .i64 m.shard, .int .i64 m.seg, .int .u64 (m.client : Int), .int .u64 (m.seq : Int), .int .u64 (m.pos : Int), .int .i64 m.code, .slice av m.vec.length cv, .string (ByteArray.mk m.body.toArray)], .agg #[.string (ByteArray.mk r.b.toArray), .int .i64 r.e], .int .u8 104] w (TakeE w 2 m av cv r) := by
  have ctr := fun w => refRead_any w r hl
  unfold refR RefRU at ctr
  obtain ⟨R', x, hrx⟩ : ∃ R' x, r.uint = (R', x) := ⟨_, _, rfl⟩
  rw [hrx] at ctr
  simp only at ctr
  have HC := Go.Lib.hid ctr; have HRX := Go.Lib.hid hrx
  clear ctr hrx
  have T0 := TK.start w (.int .i64 m.kind) (.int .u64 (m.ballot : Int)) (.int .u64 (m.slot : Int)) (.int .i64 m.shard) (.int .i64 m.seg) (.int .u64 (m.client : Int)) (.int .u64 (m.seq : Int)) (.int .u64 (m.pos : Int)) (.int .i64 m.code) (.slice av m.vec.length cv) (.string (ByteArray.mk m.body.toArray)) (.string (ByteArray.mk r.b.toArray)) (.int .i64 r.e)
  have HR := Go.Lib.hid hR
  clear hR
  go_enter Tryd.func30, Tryd.ntmps30
  go_wp2_with fail
  generalize ((((w.alloc (.cells #[.int .i64 m.kind, .int .u64 (m.ballot : Int), .int .u64 (m.slot : Int), .int .i64 m.shard, .int .i64 m.seg, .int .u64 (m.client : Int), .int .u64 (m.seq : Int), .int .u64 (m.pos : Int), .int .i64 m.code, .slice av m.vec.length cv, .string (ByteArray.mk m.body.toArray)] 36)).alloc (.cells #[.string (ByteArray.mk r.b.toArray), .int .i64 r.e] 74)).alloc (.cells #[.int .i64 0, .int .u64 0, .int .u64 0, .int .i64 0, .int .i64 0, .int .u64 0, .int .u64 0, .int .u64 0, .int .i64 0, .slice none 0 0, .string (ByteArray.mk #[])] 36)).alloc (.cells #[.string (ByteArray.mk #[]), .int .i64 0] 74)) = w4 at *
  refine (HC.out _).mono ?_
  rintro e w5 ⟨rfl, hb5⟩
  have T5 := T0.below hb5
  clear T0 hb5
  obtain ⟨p0, p1, n0, n1⟩ := NB.rw2 T5.p4
  have T6 := (T5.setR 0 (.string (ByteArray.mk R'.b.toArray))).setR 1 (.int .i64 R'.e)
  simp only [List.set] at T6
  have HT6 := Go.Lib.hid T6
  clear T6 HC
  by_cases he : R'.e = 0
  case neg =>
    have heb : (R'.e != 0) = true := by simpa using he
    have HE := Go.Lib.hid he
    clear he
    go_wp2_with fail
    have T := HT6.out
    clear HT6 T5 p0 p1 n0 n1
    generalize ((w5.setCell ⟨w.heap.size + 1, 0, none⟩ (.string (ByteArray.mk R'.b.toArray))).setCell ⟨w.heap.size + 1, 1, none⟩ (.int .i64 R'.e)) = w6 at *
    refine NB.wp_region_t [2, 3] (by kernel_rfl) ?_
    have T9 := T.below (dB w6)
    clear T
    generalize w6.drew = w7 at *
    have a3 := T9.p3; have a4 := T9.p4; have a6 := T9.p6; have a7 := T9.p7; have B7 := T9.bel
    clear T9
    refine NB.t_r 0 [2, 3] rfl (by kernel_rfl) (by kernel_rfl) (by go_simp) _ (fun w' hw' => NB.run_op_load_agg (off := 0) (m := 11) rfl rfl Tryd.underlying36 rfl _ _ _ a3 (by kernel_rfl) (Nat.le_refl _) _ rfl hw') (fun K hK => ?_); go_simp; refine hK _ ?_; clear hK K
    have A6 := (((((((((((a6.set 0 (.int .i64 m.kind)).set 1 (.int .u64 (m.ballot : Int))).set 2 (.int .u64 (m.slot : Int))).set 3 (.int .i64 m.shard)).set 4 (.int .i64 m.seg)).set 5 (.int .u64 (m.client : Int))).set 6 (.int .u64 (m.seq : Int))).set 7 (.int .u64 (m.pos : Int))).set 8 (.int .i64 m.code)).set 9 (.slice av m.vec.length cv)).set 10 (.string (ByteArray.mk m.body.toArray)))
    simp only [List.set] at A6
    have A7 := (((((((((((a7.other (g' := w.heap.size + 2) (by omega) 0 (.int .i64 m.kind)).other (g' := w.heap.size + 2) (by omega) 1 (.int .u64 (m.ballot : Int))).other (g' := w.heap.size + 2) (by omega) 2 (.int .u64 (m.slot : Int))).other (g' := w.heap.size + 2) (by omega) 3 (.int .i64 m.shard)).other (g' := w.heap.size + 2) (by omega) 4 (.int .i64 m.seg)).other (g' := w.heap.size + 2) (by omega) 5 (.int .u64 (m.client : Int))).other (g' := w.heap.size + 2) (by omega) 6 (.int .u64 (m.seq : Int))).other (g' := w.heap.size + 2) (by omega) 7 (.int .u64 (m.pos : Int))).other (g' := w.heap.size + 2) (by omega) 8 (.int .i64 m.code)).other (g' := w.heap.size + 2) (by omega) 9 (.slice av m.vec.length cv)).other (g' := w.heap.size + 2) (by omega) 10 (.string (ByteArray.mk m.body.toArray)))
    have B8 : Below w.heap.size w (((((((((((w7.setCell ⟨w.heap.size + 2, 0, none⟩ (.int .i64 m.kind)).setCell ⟨w.heap.size + 2, 1, none⟩ (.int .u64 (m.ballot : Int))).setCell ⟨w.heap.size + 2, 2, none⟩ (.int .u64 (m.slot : Int))).setCell ⟨w.heap.size + 2, 3, none⟩ (.int .i64 m.shard)).setCell ⟨w.heap.size + 2, 4, none⟩ (.int .i64 m.seg)).setCell ⟨w.heap.size + 2, 5, none⟩ (.int .u64 (m.client : Int))).setCell ⟨w.heap.size + 2, 6, none⟩ (.int .u64 (m.seq : Int))).setCell ⟨w.heap.size + 2, 7, none⟩ (.int .u64 (m.pos : Int))).setCell ⟨w.heap.size + 2, 8, none⟩ (.int .i64 m.code)).setCell ⟨w.heap.size + 2, 9, none⟩ (.slice av m.vec.length cv)).setCell ⟨w.heap.size + 2, 10, none⟩ (.string (ByteArray.mk m.body.toArray))) := (((((((((((B7.setCell (p := ⟨w.heap.size + 2, 0, none⟩) (by simp) (.int .i64 m.kind)).setCell (p := ⟨w.heap.size + 2, 1, none⟩) (by simp) (.int .u64 (m.ballot : Int))).setCell (p := ⟨w.heap.size + 2, 2, none⟩) (by simp) (.int .u64 (m.slot : Int))).setCell (p := ⟨w.heap.size + 2, 3, none⟩) (by simp) (.int .i64 m.shard)).setCell (p := ⟨w.heap.size + 2, 4, none⟩) (by simp) (.int .i64 m.seg)).setCell (p := ⟨w.heap.size + 2, 5, none⟩) (by simp) (.int .u64 (m.client : Int))).setCell (p := ⟨w.heap.size + 2, 6, none⟩) (by simp) (.int .u64 (m.seq : Int))).setCell (p := ⟨w.heap.size + 2, 7, none⟩) (by simp) (.int .u64 (m.pos : Int))).setCell (p := ⟨w.heap.size + 2, 8, none⟩) (by simp) (.int .i64 m.code)).setCell (p := ⟨w.heap.size + 2, 9, none⟩) (by simp) (.slice av m.vec.length cv)).setCell (p := ⟨w.heap.size + 2, 10, none⟩) (by simp) (.string (ByteArray.mk m.body.toArray)))
    have HA6 := Go.Lib.hid A6; have HA7 := Go.Lib.hid A7; have HB8 := Go.Lib.hid B8
    clear A6 A7 B8 B7 a7
    have q0 := a6.cell 0 _ rfl
    have g0 := a6.free 0
    have q1 := a6.cell 1 _ rfl
    have g1 := a6.free 1
    have q2 := a6.cell 2 _ rfl
    have g2 := a6.free 2
    have q3 := a6.cell 3 _ rfl
    have g3 := a6.free 3
    have q4 := a6.cell 4 _ rfl
    have g4 := a6.free 4
    have q5 := a6.cell 5 _ rfl
    have g5 := a6.free 5
    have q6 := a6.cell 6 _ rfl
    have g6 := a6.free 6
    have q7 := a6.cell 7 _ rfl
    have g7 := a6.free 7
    have q8 := a6.cell 8 _ rfl
    have g8 := a6.free 8
    have q9 := a6.cell 9 _ rfl
    have g9 := a6.free 9
    have q10 := a6.cell 10 _ rfl
    have g10 := a6.free 10
    have A4 := (((((((((((a4.other (g' := w.heap.size + 2) (by omega) 0 (.int .i64 m.kind)).other (g' := w.heap.size + 2) (by omega) 1 (.int .u64 (m.ballot : Int))).other (g' := w.heap.size + 2) (by omega) 2 (.int .u64 (m.slot : Int))).other (g' := w.heap.size + 2) (by omega) 3 (.int .i64 m.shard)).other (g' := w.heap.size + 2) (by omega) 4 (.int .i64 m.seg)).other (g' := w.heap.size + 2) (by omega) 5 (.int .u64 (m.client : Int))).other (g' := w.heap.size + 2) (by omega) 6 (.int .u64 (m.seq : Int))).other (g' := w.heap.size + 2) (by omega) 7 (.int .u64 (m.pos : Int))).other (g' := w.heap.size + 2) (by omega) 8 (.int .i64 m.code)).other (g' := w.heap.size + 2) (by omega) 9 (.slice av m.vec.length cv)).other (g' := w.heap.size + 2) (by omega) 10 (.string (ByteArray.mk m.body.toArray)))
    have HA4 := Go.Lib.hid A4
    clear A4
    refine NB.t_rs 1 2 rfl rfl (by kernel_rfl) (by kernel_rfl) (by kernel_rfl) (by kernel_rfl) (by kernel_rfl) (by intro _ _ h; cases h) (by intro _ _ h; cases h) (by go_simp) _ (by go_simp) (NB.run_op_load_agg (off := 0) (m := 2) rfl rfl Tryd.underlying74 rfl _ _ _ a4 (by kernel_rfl) (Nat.le_refl _) _ rfl (Below.refl _ w7)) (fun Q' hK => ?_)
    go_wp2
    refine hK _ _ (NB.run_op_load_agg (off := 0) (m := 2) rfl rfl Tryd.underlying74 rfl _ _ _ HA4.out (by kernel_rfl) (Nat.le_refl _) _ rfl (Below.refl _ _)) ?_
    clear hK Q' HA4 q0 g0 q1 g1 q2 g2 q3 g3 q4 g4 q5 g5 q6 g6 q7 g7 q8 g8 q9 g9 q10 g10
    generalize (((((((((((w7.setCell ⟨w.heap.size + 2, 0, none⟩ (.int .i64 m.kind)).setCell ⟨w.heap.size + 2, 1, none⟩ (.int .u64 (m.ballot : Int))).setCell ⟨w.heap.size + 2, 2, none⟩ (.int .u64 (m.slot : Int))).setCell ⟨w.heap.size + 2, 3, none⟩ (.int .i64 m.shard)).setCell ⟨w.heap.size + 2, 4, none⟩ (.int .i64 m.seg)).setCell ⟨w.heap.size + 2, 5, none⟩ (.int .u64 (m.client : Int))).setCell ⟨w.heap.size + 2, 6, none⟩ (.int .u64 (m.seq : Int))).setCell ⟨w.heap.size + 2, 7, none⟩ (.int .u64 (m.pos : Int))).setCell ⟨w.heap.size + 2, 8, none⟩ (.int .i64 m.code)).setCell ⟨w.heap.size + 2, 9, none⟩ (.slice av m.vec.length cv)).setCell ⟨w.heap.size + 2, 10, none⟩ (.string (ByteArray.mk m.body.toArray))) = w8 at *
    have A7 := HA7.out
    have F6 := HA6.out.other (g' := w.heap.size + 3) (by omega) 0 (.string (ByteArray.mk R'.b.toArray))
    have F6 := F6.other (g' := w.heap.size + 3) (by omega) 1 (.int .i64 R'.e)
    have F7 := (A7.set 0 (.string (ByteArray.mk R'.b.toArray))).set 1 (.int .i64 R'.e)
    simp only [List.set] at F7
    have B9 := (HB8.out.setCell (p := ⟨w.heap.size + 3, 0, none⟩) (by simp) (.string (ByteArray.mk R'.b.toArray))).setCell (p := ⟨w.heap.size + 3, 1, none⟩) (by simp) (.int .i64 R'.e)
    have HF6 := Go.Lib.hid F6; have HF7 := Go.Lib.hid F7; have HB9 := Go.Lib.hid B9
    clear F6 F7 B9
    obtain ⟨q0, q1, g0, g1⟩ := NB.rw2 A7
    refine NB.t_w 3 rfl (by kernel_rfl) (by kernel_rfl) rfl (fun Q' hK => ?_)
    go_wp2
    clear q0 q1 g0 g1 A7 HA6 HA7 HB8
    generalize ((w8.setCell ⟨w.heap.size + 3, 0, none⟩ (.string (ByteArray.mk R'.b.toArray))).setCell ⟨w.heap.size + 3, 1, none⟩ (.int .i64 R'.e)) = w9 at *
    refine NB.t_end (by kernel_rfl) ?_
    go_wp2
    have F6 := HF6.out; have F7 := HF7.out
    have q0 := F6.cell 0 _ rfl
    have q1 := F6.cell 1 _ rfl
    have q2 := F6.cell 2 _ rfl
    have q3 := F6.cell 3 _ rfl
    have q4 := F6.cell 4 _ rfl
    have q5 := F6.cell 5 _ rfl
    have q6 := F6.cell 6 _ rfl
    have q7 := F6.cell 7 _ rfl
    have q8 := F6.cell 8 _ rfl
    have q9 := F6.cell 9 _ rfl
    have q10 := F6.cell 10 _ rfl
    have c0 := F7.cell 0 _ rfl
    have c1 := F7.cell 1 _ rfl
    have hlt := F7.lt
    have hlt6 := F6.lt
    refine bodyPost_ret (v := .tuple #[.agg #[.int .i64 m.kind, .int .u64 (m.ballot : Int), .int .u64 (m.slot : Int), .int .i64 m.shard, .int .i64 m.seg, .int .u64 (m.client : Int), .int .u64 (m.seq : Int), .int .u64 (m.pos : Int), .int .i64 m.code, .slice av m.vec.length cv, .string (ByteArray.mk m.body.toArray)], .agg #[.string (ByteArray.mk R'.b.toArray), .int .i64 R'.e]]) (by simp [results, Tryd.results30, go_sem, q0, q1, q2, q3, q4, q5, q6, q7, q8, q9, q10, c0, c1, hlt, hlt6]) rfl ?_
    exact take_mk R' (show (readF 2 m r).1 = R' from (show (Rr.upto 11 8 r).1 = R' by rw [upto_er HRX.out 11 8 HE.out])) (by decide) m rfl HR.out HB9.out (fun h => absurd h HE.out)
  have heb : (R'.e != 0) = false := by simpa using he
  have HE := Go.Lib.hid he
  clear he
  by_cases hxb : 8 ≤ x
  · have hxi : (8 : Int) ≤ (x : Int) := by omega
    have HXB := Go.Lib.hid hxb
    clear hxb
    have T7 := HT6.out.setR 1 (.int .i64 11)
    have HT7 := Go.Lib.hid T7
    clear HT6 T7
    go_wp2_with fail
    have T := HT7.out
    clear HT7 T5 p0 p1 n0 n1
    simp only [List.set] at T
    generalize ((((w5.setCell ⟨w.heap.size + 1, 0, none⟩ (.string (ByteArray.mk R'.b.toArray))).setCell ⟨w.heap.size + 1, 1, none⟩ (.int .i64 R'.e))).setCell ⟨w.heap.size + 1, 1, none⟩ (.int .i64 11)) = w6 at *
    refine NB.wp_region_t [2, 3] (by kernel_rfl) ?_
    have T9 := T.below (dB w6)
    clear T
    generalize w6.drew = w7 at *
    have a3 := T9.p3; have a4 := T9.p4; have a6 := T9.p6; have a7 := T9.p7; have B7 := T9.bel
    clear T9
    refine NB.t_r 0 [2, 3] rfl (by kernel_rfl) (by kernel_rfl) (by go_simp) _ (fun w' hw' => NB.run_op_load_agg (off := 0) (m := 11) rfl rfl Tryd.underlying36 rfl _ _ _ a3 (by kernel_rfl) (Nat.le_refl _) _ rfl hw') (fun K hK => ?_); go_simp; refine hK _ ?_; clear hK K
    have A6 := (((((((((((a6.set 0 (.int .i64 m.kind)).set 1 (.int .u64 (m.ballot : Int))).set 2 (.int .u64 (m.slot : Int))).set 3 (.int .i64 m.shard)).set 4 (.int .i64 m.seg)).set 5 (.int .u64 (m.client : Int))).set 6 (.int .u64 (m.seq : Int))).set 7 (.int .u64 (m.pos : Int))).set 8 (.int .i64 m.code)).set 9 (.slice av m.vec.length cv)).set 10 (.string (ByteArray.mk m.body.toArray)))
    simp only [List.set] at A6
    have A7 := (((((((((((a7.other (g' := w.heap.size + 2) (by omega) 0 (.int .i64 m.kind)).other (g' := w.heap.size + 2) (by omega) 1 (.int .u64 (m.ballot : Int))).other (g' := w.heap.size + 2) (by omega) 2 (.int .u64 (m.slot : Int))).other (g' := w.heap.size + 2) (by omega) 3 (.int .i64 m.shard)).other (g' := w.heap.size + 2) (by omega) 4 (.int .i64 m.seg)).other (g' := w.heap.size + 2) (by omega) 5 (.int .u64 (m.client : Int))).other (g' := w.heap.size + 2) (by omega) 6 (.int .u64 (m.seq : Int))).other (g' := w.heap.size + 2) (by omega) 7 (.int .u64 (m.pos : Int))).other (g' := w.heap.size + 2) (by omega) 8 (.int .i64 m.code)).other (g' := w.heap.size + 2) (by omega) 9 (.slice av m.vec.length cv)).other (g' := w.heap.size + 2) (by omega) 10 (.string (ByteArray.mk m.body.toArray)))
    have B8 : Below w.heap.size w (((((((((((w7.setCell ⟨w.heap.size + 2, 0, none⟩ (.int .i64 m.kind)).setCell ⟨w.heap.size + 2, 1, none⟩ (.int .u64 (m.ballot : Int))).setCell ⟨w.heap.size + 2, 2, none⟩ (.int .u64 (m.slot : Int))).setCell ⟨w.heap.size + 2, 3, none⟩ (.int .i64 m.shard)).setCell ⟨w.heap.size + 2, 4, none⟩ (.int .i64 m.seg)).setCell ⟨w.heap.size + 2, 5, none⟩ (.int .u64 (m.client : Int))).setCell ⟨w.heap.size + 2, 6, none⟩ (.int .u64 (m.seq : Int))).setCell ⟨w.heap.size + 2, 7, none⟩ (.int .u64 (m.pos : Int))).setCell ⟨w.heap.size + 2, 8, none⟩ (.int .i64 m.code)).setCell ⟨w.heap.size + 2, 9, none⟩ (.slice av m.vec.length cv)).setCell ⟨w.heap.size + 2, 10, none⟩ (.string (ByteArray.mk m.body.toArray))) := (((((((((((B7.setCell (p := ⟨w.heap.size + 2, 0, none⟩) (by simp) (.int .i64 m.kind)).setCell (p := ⟨w.heap.size + 2, 1, none⟩) (by simp) (.int .u64 (m.ballot : Int))).setCell (p := ⟨w.heap.size + 2, 2, none⟩) (by simp) (.int .u64 (m.slot : Int))).setCell (p := ⟨w.heap.size + 2, 3, none⟩) (by simp) (.int .i64 m.shard)).setCell (p := ⟨w.heap.size + 2, 4, none⟩) (by simp) (.int .i64 m.seg)).setCell (p := ⟨w.heap.size + 2, 5, none⟩) (by simp) (.int .u64 (m.client : Int))).setCell (p := ⟨w.heap.size + 2, 6, none⟩) (by simp) (.int .u64 (m.seq : Int))).setCell (p := ⟨w.heap.size + 2, 7, none⟩) (by simp) (.int .u64 (m.pos : Int))).setCell (p := ⟨w.heap.size + 2, 8, none⟩) (by simp) (.int .i64 m.code)).setCell (p := ⟨w.heap.size + 2, 9, none⟩) (by simp) (.slice av m.vec.length cv)).setCell (p := ⟨w.heap.size + 2, 10, none⟩) (by simp) (.string (ByteArray.mk m.body.toArray)))
    have HA6 := Go.Lib.hid A6; have HA7 := Go.Lib.hid A7; have HB8 := Go.Lib.hid B8
    clear A6 A7 B8 B7 a7
    have q0 := a6.cell 0 _ rfl
    have g0 := a6.free 0
    have q1 := a6.cell 1 _ rfl
    have g1 := a6.free 1
    have q2 := a6.cell 2 _ rfl
    have g2 := a6.free 2
    have q3 := a6.cell 3 _ rfl
    have g3 := a6.free 3
    have q4 := a6.cell 4 _ rfl
    have g4 := a6.free 4
    have q5 := a6.cell 5 _ rfl
    have g5 := a6.free 5
    have q6 := a6.cell 6 _ rfl
    have g6 := a6.free 6
    have q7 := a6.cell 7 _ rfl
    have g7 := a6.free 7
    have q8 := a6.cell 8 _ rfl
    have g8 := a6.free 8
    have q9 := a6.cell 9 _ rfl
    have g9 := a6.free 9
    have q10 := a6.cell 10 _ rfl
    have g10 := a6.free 10
    have A4 := (((((((((((a4.other (g' := w.heap.size + 2) (by omega) 0 (.int .i64 m.kind)).other (g' := w.heap.size + 2) (by omega) 1 (.int .u64 (m.ballot : Int))).other (g' := w.heap.size + 2) (by omega) 2 (.int .u64 (m.slot : Int))).other (g' := w.heap.size + 2) (by omega) 3 (.int .i64 m.shard)).other (g' := w.heap.size + 2) (by omega) 4 (.int .i64 m.seg)).other (g' := w.heap.size + 2) (by omega) 5 (.int .u64 (m.client : Int))).other (g' := w.heap.size + 2) (by omega) 6 (.int .u64 (m.seq : Int))).other (g' := w.heap.size + 2) (by omega) 7 (.int .u64 (m.pos : Int))).other (g' := w.heap.size + 2) (by omega) 8 (.int .i64 m.code)).other (g' := w.heap.size + 2) (by omega) 9 (.slice av m.vec.length cv)).other (g' := w.heap.size + 2) (by omega) 10 (.string (ByteArray.mk m.body.toArray)))
    have HA4 := Go.Lib.hid A4
    clear A4
    refine NB.t_rs 1 2 rfl rfl (by kernel_rfl) (by kernel_rfl) (by kernel_rfl) (by kernel_rfl) (by kernel_rfl) (by intro _ _ h; cases h) (by intro _ _ h; cases h) (by go_simp) _ (by go_simp) (NB.run_op_load_agg (off := 0) (m := 2) rfl rfl Tryd.underlying74 rfl _ _ _ a4 (by kernel_rfl) (Nat.le_refl _) _ rfl (Below.refl _ w7)) (fun Q' hK => ?_)
    go_wp2
    refine hK _ _ (NB.run_op_load_agg (off := 0) (m := 2) rfl rfl Tryd.underlying74 rfl _ _ _ HA4.out (by kernel_rfl) (Nat.le_refl _) _ rfl (Below.refl _ _)) ?_
    clear hK Q' HA4 q0 g0 q1 g1 q2 g2 q3 g3 q4 g4 q5 g5 q6 g6 q7 g7 q8 g8 q9 g9 q10 g10
    generalize (((((((((((w7.setCell ⟨w.heap.size + 2, 0, none⟩ (.int .i64 m.kind)).setCell ⟨w.heap.size + 2, 1, none⟩ (.int .u64 (m.ballot : Int))).setCell ⟨w.heap.size + 2, 2, none⟩ (.int .u64 (m.slot : Int))).setCell ⟨w.heap.size + 2, 3, none⟩ (.int .i64 m.shard)).setCell ⟨w.heap.size + 2, 4, none⟩ (.int .i64 m.seg)).setCell ⟨w.heap.size + 2, 5, none⟩ (.int .u64 (m.client : Int))).setCell ⟨w.heap.size + 2, 6, none⟩ (.int .u64 (m.seq : Int))).setCell ⟨w.heap.size + 2, 7, none⟩ (.int .u64 (m.pos : Int))).setCell ⟨w.heap.size + 2, 8, none⟩ (.int .i64 m.code)).setCell ⟨w.heap.size + 2, 9, none⟩ (.slice av m.vec.length cv)).setCell ⟨w.heap.size + 2, 10, none⟩ (.string (ByteArray.mk m.body.toArray))) = w8 at *
    have A7 := HA7.out
    have F6 := HA6.out.other (g' := w.heap.size + 3) (by omega) 0 (.string (ByteArray.mk R'.b.toArray))
    have F6 := F6.other (g' := w.heap.size + 3) (by omega) 1 (.int .i64 11)
    have F7 := (A7.set 0 (.string (ByteArray.mk R'.b.toArray))).set 1 (.int .i64 11)
    simp only [List.set] at F7
    have B9 := (HB8.out.setCell (p := ⟨w.heap.size + 3, 0, none⟩) (by simp) (.string (ByteArray.mk R'.b.toArray))).setCell (p := ⟨w.heap.size + 3, 1, none⟩) (by simp) (.int .i64 11)
    have HF6 := Go.Lib.hid F6; have HF7 := Go.Lib.hid F7; have HB9 := Go.Lib.hid B9
    clear F6 F7 B9
    obtain ⟨q0, q1, g0, g1⟩ := NB.rw2 A7
    refine NB.t_w 3 rfl (by kernel_rfl) (by kernel_rfl) rfl (fun Q' hK => ?_)
    go_wp2
    clear q0 q1 g0 g1 A7 HA6 HA7 HB8
    generalize ((w8.setCell ⟨w.heap.size + 3, 0, none⟩ (.string (ByteArray.mk R'.b.toArray))).setCell ⟨w.heap.size + 3, 1, none⟩ (.int .i64 11)) = w9 at *
    refine NB.t_end (by kernel_rfl) ?_
    go_wp2
    have F6 := HF6.out; have F7 := HF7.out
    have q0 := F6.cell 0 _ rfl
    have q1 := F6.cell 1 _ rfl
    have q2 := F6.cell 2 _ rfl
    have q3 := F6.cell 3 _ rfl
    have q4 := F6.cell 4 _ rfl
    have q5 := F6.cell 5 _ rfl
    have q6 := F6.cell 6 _ rfl
    have q7 := F6.cell 7 _ rfl
    have q8 := F6.cell 8 _ rfl
    have q9 := F6.cell 9 _ rfl
    have q10 := F6.cell 10 _ rfl
    have c0 := F7.cell 0 _ rfl
    have c1 := F7.cell 1 _ rfl
    have hlt := F7.lt
    have hlt6 := F6.lt
    refine bodyPost_ret (v := .tuple #[.agg #[.int .i64 m.kind, .int .u64 (m.ballot : Int), .int .u64 (m.slot : Int), .int .i64 m.shard, .int .i64 m.seg, .int .u64 (m.client : Int), .int .u64 (m.seq : Int), .int .u64 (m.pos : Int), .int .i64 m.code, .slice av m.vec.length cv, .string (ByteArray.mk m.body.toArray)], .agg #[.string (ByteArray.mk R'.b.toArray), .int .i64 11]]) (by simp [results, Tryd.results30, go_sem, q0, q1, q2, q3, q4, q5, q6, q7, q8, q9, q10, c0, c1, hlt, hlt6]) rfl ?_
    exact take_mk ⟨R'.b, 11⟩ (show (readF 2 m r).1 = ⟨R'.b, 11⟩ from (show (Rr.upto 11 8 r).1 = ⟨R'.b, 11⟩ by rw [upto_big HRX.out 11 8 HE.out HXB.out])) (by decide) m rfl HR.out HB9.out (fun h => absurd h (show ¬ (11 : Int) = 0 by decide))
  have hxi : ¬ (8 : Int) ≤ (x : Int) := by omega
  have hwx : IntKind.i64.wrap (x : Int) = (x : Int) := IntWalk.i64_in _ (by omega)
  have hwx2 : wrap64 (x : Int) = (x : Int) := by unfold wrap64; omega
  have hxl : x < 8 := by omega
  have HXB := Go.Lib.hid hxl
  clear hxb hxl
  have T7 := HT6.out.setM 3 (.int .i64 (x : Int))
  have d := T5.p3.cell 3 _ rfl
  have fd := T5.p3.free 3
  have HT7 := Go.Lib.hid T7
  clear HT6 T7
  go_wp2_with fail
  have T := HT7.out
  clear HT7 T5 p0 p1 n0 n1 d fd
  generalize ((w5.setCell ⟨w.heap.size + 1, 0, none⟩ (.string (ByteArray.mk R'.b.toArray))).setCell ⟨w.heap.size + 1, 1, none⟩ (.int .i64 R'.e)).setCell ⟨w.heap.size, 3, none⟩ (.int .i64 (x : Int)) = w6 at *
  simp only [List.set] at T
  refine NB.wp_region_t [2, 3] (by kernel_rfl) ?_
  have T9 := T.below (dB w6)
  clear T
  generalize w6.drew = w7 at *
  have a3 := T9.p3; have a4 := T9.p4; have a6 := T9.p6; have a7 := T9.p7; have B7 := T9.bel
  clear T9
  refine NB.t_r 0 [2, 3] rfl (by kernel_rfl) (by kernel_rfl) (by go_simp) _ (fun w' hw' => NB.run_op_load_agg (off := 0) (m := 11) rfl rfl Tryd.underlying36 rfl _ _ _ a3 (by kernel_rfl) (Nat.le_refl _) _ rfl hw') (fun K hK => ?_); go_simp; refine hK _ ?_; clear hK K
  have A6 := (((((((((((a6.set 0 (.int .i64 m.kind)).set 1 (.int .u64 (m.ballot : Int))).set 2 (.int .u64 (m.slot : Int))).set 3 (.int .i64 (x : Int))).set 4 (.int .i64 m.seg)).set 5 (.int .u64 (m.client : Int))).set 6 (.int .u64 (m.seq : Int))).set 7 (.int .u64 (m.pos : Int))).set 8 (.int .i64 m.code)).set 9 (.slice av m.vec.length cv)).set 10 (.string (ByteArray.mk m.body.toArray)))
  simp only [List.set] at A6
  have A7 := (((((((((((a7.other (g' := w.heap.size + 2) (by omega) 0 (.int .i64 m.kind)).other (g' := w.heap.size + 2) (by omega) 1 (.int .u64 (m.ballot : Int))).other (g' := w.heap.size + 2) (by omega) 2 (.int .u64 (m.slot : Int))).other (g' := w.heap.size + 2) (by omega) 3 (.int .i64 (x : Int))).other (g' := w.heap.size + 2) (by omega) 4 (.int .i64 m.seg)).other (g' := w.heap.size + 2) (by omega) 5 (.int .u64 (m.client : Int))).other (g' := w.heap.size + 2) (by omega) 6 (.int .u64 (m.seq : Int))).other (g' := w.heap.size + 2) (by omega) 7 (.int .u64 (m.pos : Int))).other (g' := w.heap.size + 2) (by omega) 8 (.int .i64 m.code)).other (g' := w.heap.size + 2) (by omega) 9 (.slice av m.vec.length cv)).other (g' := w.heap.size + 2) (by omega) 10 (.string (ByteArray.mk m.body.toArray)))
  have B8 : Below w.heap.size w (((((((((((w7.setCell ⟨w.heap.size + 2, 0, none⟩ (.int .i64 m.kind)).setCell ⟨w.heap.size + 2, 1, none⟩ (.int .u64 (m.ballot : Int))).setCell ⟨w.heap.size + 2, 2, none⟩ (.int .u64 (m.slot : Int))).setCell ⟨w.heap.size + 2, 3, none⟩ (.int .i64 (x : Int))).setCell ⟨w.heap.size + 2, 4, none⟩ (.int .i64 m.seg)).setCell ⟨w.heap.size + 2, 5, none⟩ (.int .u64 (m.client : Int))).setCell ⟨w.heap.size + 2, 6, none⟩ (.int .u64 (m.seq : Int))).setCell ⟨w.heap.size + 2, 7, none⟩ (.int .u64 (m.pos : Int))).setCell ⟨w.heap.size + 2, 8, none⟩ (.int .i64 m.code)).setCell ⟨w.heap.size + 2, 9, none⟩ (.slice av m.vec.length cv)).setCell ⟨w.heap.size + 2, 10, none⟩ (.string (ByteArray.mk m.body.toArray))) := (((((((((((B7.setCell (p := ⟨w.heap.size + 2, 0, none⟩) (by simp) (.int .i64 m.kind)).setCell (p := ⟨w.heap.size + 2, 1, none⟩) (by simp) (.int .u64 (m.ballot : Int))).setCell (p := ⟨w.heap.size + 2, 2, none⟩) (by simp) (.int .u64 (m.slot : Int))).setCell (p := ⟨w.heap.size + 2, 3, none⟩) (by simp) (.int .i64 (x : Int))).setCell (p := ⟨w.heap.size + 2, 4, none⟩) (by simp) (.int .i64 m.seg)).setCell (p := ⟨w.heap.size + 2, 5, none⟩) (by simp) (.int .u64 (m.client : Int))).setCell (p := ⟨w.heap.size + 2, 6, none⟩) (by simp) (.int .u64 (m.seq : Int))).setCell (p := ⟨w.heap.size + 2, 7, none⟩) (by simp) (.int .u64 (m.pos : Int))).setCell (p := ⟨w.heap.size + 2, 8, none⟩) (by simp) (.int .i64 m.code)).setCell (p := ⟨w.heap.size + 2, 9, none⟩) (by simp) (.slice av m.vec.length cv)).setCell (p := ⟨w.heap.size + 2, 10, none⟩) (by simp) (.string (ByteArray.mk m.body.toArray)))
  have HA6 := Go.Lib.hid A6; have HA7 := Go.Lib.hid A7; have HB8 := Go.Lib.hid B8
  clear A6 A7 B8 B7 a7
  have q0 := a6.cell 0 _ rfl
  have g0 := a6.free 0
  have q1 := a6.cell 1 _ rfl
  have g1 := a6.free 1
  have q2 := a6.cell 2 _ rfl
  have g2 := a6.free 2
  have q3 := a6.cell 3 _ rfl
  have g3 := a6.free 3
  have q4 := a6.cell 4 _ rfl
  have g4 := a6.free 4
  have q5 := a6.cell 5 _ rfl
  have g5 := a6.free 5
  have q6 := a6.cell 6 _ rfl
  have g6 := a6.free 6
  have q7 := a6.cell 7 _ rfl
  have g7 := a6.free 7
  have q8 := a6.cell 8 _ rfl
  have g8 := a6.free 8
  have q9 := a6.cell 9 _ rfl
  have g9 := a6.free 9
  have q10 := a6.cell 10 _ rfl
  have g10 := a6.free 10
  have A4 := (((((((((((a4.other (g' := w.heap.size + 2) (by omega) 0 (.int .i64 m.kind)).other (g' := w.heap.size + 2) (by omega) 1 (.int .u64 (m.ballot : Int))).other (g' := w.heap.size + 2) (by omega) 2 (.int .u64 (m.slot : Int))).other (g' := w.heap.size + 2) (by omega) 3 (.int .i64 (x : Int))).other (g' := w.heap.size + 2) (by omega) 4 (.int .i64 m.seg)).other (g' := w.heap.size + 2) (by omega) 5 (.int .u64 (m.client : Int))).other (g' := w.heap.size + 2) (by omega) 6 (.int .u64 (m.seq : Int))).other (g' := w.heap.size + 2) (by omega) 7 (.int .u64 (m.pos : Int))).other (g' := w.heap.size + 2) (by omega) 8 (.int .i64 m.code)).other (g' := w.heap.size + 2) (by omega) 9 (.slice av m.vec.length cv)).other (g' := w.heap.size + 2) (by omega) 10 (.string (ByteArray.mk m.body.toArray)))
  have HA4 := Go.Lib.hid A4
  clear A4
  refine NB.t_rs 1 2 rfl rfl (by kernel_rfl) (by kernel_rfl) (by kernel_rfl) (by kernel_rfl) (by kernel_rfl) (by intro _ _ h; cases h) (by intro _ _ h; cases h) (by go_simp) _ (by go_simp) (NB.run_op_load_agg (off := 0) (m := 2) rfl rfl Tryd.underlying74 rfl _ _ _ a4 (by kernel_rfl) (Nat.le_refl _) _ rfl (Below.refl _ w7)) (fun Q' hK => ?_)
  go_wp2
  refine hK _ _ (NB.run_op_load_agg (off := 0) (m := 2) rfl rfl Tryd.underlying74 rfl _ _ _ HA4.out (by kernel_rfl) (Nat.le_refl _) _ rfl (Below.refl _ _)) ?_
  clear hK Q' HA4 q0 g0 q1 g1 q2 g2 q3 g3 q4 g4 q5 g5 q6 g6 q7 g7 q8 g8 q9 g9 q10 g10
  generalize (((((((((((w7.setCell ⟨w.heap.size + 2, 0, none⟩ (.int .i64 m.kind)).setCell ⟨w.heap.size + 2, 1, none⟩ (.int .u64 (m.ballot : Int))).setCell ⟨w.heap.size + 2, 2, none⟩ (.int .u64 (m.slot : Int))).setCell ⟨w.heap.size + 2, 3, none⟩ (.int .i64 (x : Int))).setCell ⟨w.heap.size + 2, 4, none⟩ (.int .i64 m.seg)).setCell ⟨w.heap.size + 2, 5, none⟩ (.int .u64 (m.client : Int))).setCell ⟨w.heap.size + 2, 6, none⟩ (.int .u64 (m.seq : Int))).setCell ⟨w.heap.size + 2, 7, none⟩ (.int .u64 (m.pos : Int))).setCell ⟨w.heap.size + 2, 8, none⟩ (.int .i64 m.code)).setCell ⟨w.heap.size + 2, 9, none⟩ (.slice av m.vec.length cv)).setCell ⟨w.heap.size + 2, 10, none⟩ (.string (ByteArray.mk m.body.toArray))) = w8 at *
  have A7 := HA7.out
  have F6 := HA6.out.other (g' := w.heap.size + 3) (by omega) 0 (.string (ByteArray.mk R'.b.toArray))
  have F6 := F6.other (g' := w.heap.size + 3) (by omega) 1 (.int .i64 R'.e)
  have F7 := (A7.set 0 (.string (ByteArray.mk R'.b.toArray))).set 1 (.int .i64 R'.e)
  simp only [List.set] at F7
  have B9 := (HB8.out.setCell (p := ⟨w.heap.size + 3, 0, none⟩) (by simp) (.string (ByteArray.mk R'.b.toArray))).setCell (p := ⟨w.heap.size + 3, 1, none⟩) (by simp) (.int .i64 R'.e)
  have HF6 := Go.Lib.hid F6; have HF7 := Go.Lib.hid F7; have HB9 := Go.Lib.hid B9
  clear F6 F7 B9
  obtain ⟨q0, q1, g0, g1⟩ := NB.rw2 A7
  refine NB.t_w 3 rfl (by kernel_rfl) (by kernel_rfl) rfl (fun Q' hK => ?_)
  go_wp2
  clear q0 q1 g0 g1 A7 HA6 HA7 HB8
  generalize ((w8.setCell ⟨w.heap.size + 3, 0, none⟩ (.string (ByteArray.mk R'.b.toArray))).setCell ⟨w.heap.size + 3, 1, none⟩ (.int .i64 R'.e)) = w9 at *
  refine NB.t_end (by kernel_rfl) ?_
  go_wp2
  have F6 := HF6.out; have F7 := HF7.out
  have q0 := F6.cell 0 _ rfl
  have q1 := F6.cell 1 _ rfl
  have q2 := F6.cell 2 _ rfl
  have q3 := F6.cell 3 _ rfl
  have q4 := F6.cell 4 _ rfl
  have q5 := F6.cell 5 _ rfl
  have q6 := F6.cell 6 _ rfl
  have q7 := F6.cell 7 _ rfl
  have q8 := F6.cell 8 _ rfl
  have q9 := F6.cell 9 _ rfl
  have q10 := F6.cell 10 _ rfl
  have c0 := F7.cell 0 _ rfl
  have c1 := F7.cell 1 _ rfl
  have hlt := F7.lt
  have hlt6 := F6.lt
  refine bodyPost_ret (v := .tuple #[.agg #[.int .i64 m.kind, .int .u64 (m.ballot : Int), .int .u64 (m.slot : Int), .int .i64 (x : Int), .int .i64 m.seg, .int .u64 (m.client : Int), .int .u64 (m.seq : Int), .int .u64 (m.pos : Int), .int .i64 m.code, .slice av m.vec.length cv, .string (ByteArray.mk m.body.toArray)], .agg #[.string (ByteArray.mk R'.b.toArray), .int .i64 R'.e]]) (by simp [results, Tryd.results30, go_sem, q0, q1, q2, q3, q4, q5, q6, q7, q8, q9, q10, c0, c1, hlt, hlt6]) rfl ?_
  exact take_mk R' (show (readF 2 m r).1 = R' from (show (Rr.upto 11 8 r).1 = R' by rw [upto_ok HRX.out 11 8 HXB.out])) (by decide) { m with shard := (x : Int) } rfl HR.out HB9.out (fun _ => by show _ = { m with shard := ((Rr.upto 11 8 r).2 : Int) }; rw [upto_ok HRX.out 11 8 HXB.out])

set_option maxRecDepth 100000 in
set_option maxHeartbeats 8000000 in
theorem take_3 (w : World) (m : Mm) (av : Option Addr) (cv : Nat) (r : Rr) (hR : RdU w av m.vec.length cv m.vec) (hl : r.b.length ≤ 100000000) :
    Calls Tryd.prog 30 #[.agg #[.int .i64 m.kind, .int .u64 (m.ballot : Int), .int .u64 (m.slot : Int), .int .i64 m.shard, .int .i64 m.seg, .int .u64 (m.client : Int), .int .u64 (m.seq : Int), .int .u64 (m.pos : Int), .int .i64 m.code, .slice av m.vec.length cv, .string (ByteArray.mk m.body.toArray)], .agg #[.string (ByteArray.mk r.b.toArray), .int .i64 r.e], .int .u8 103] w (TakeE w 3 m av cv r) := by
  have ctr := fun w => refRead_any w r hl
  unfold refR RefRU at ctr
  obtain ⟨R', x, hrx⟩ : ∃ R' x, r.uint = (R', x) := ⟨_, _, rfl⟩
  rw [hrx] at ctr
  simp only at ctr
  have HC := Go.Lib.hid ctr; have HRX := Go.Lib.hid hrx
  clear ctr hrx
  have T0 := TK.start w (.int .i64 m.kind) (.int .u64 (m.ballot : Int)) (.int .u64 (m.slot : Int)) (.int .i64 m.shard) (.int .i64 m.seg) (.int .u64 (m.client : Int)) (.int .u64 (m.seq : Int)) (.int .u64 (m.pos : Int)) (.int .i64 m.code) (.slice av m.vec.length cv) (.string (ByteArray.mk m.body.toArray)) (.string (ByteArray.mk r.b.toArray)) (.int .i64 r.e)
  have HR := Go.Lib.hid hR
  clear hR
  go_enter Tryd.func30, Tryd.ntmps30
  go_wp2_with fail
  generalize ((((w.alloc (.cells #[.int .i64 m.kind, .int .u64 (m.ballot : Int), .int .u64 (m.slot : Int), .int .i64 m.shard, .int .i64 m.seg, .int .u64 (m.client : Int), .int .u64 (m.seq : Int), .int .u64 (m.pos : Int), .int .i64 m.code, .slice av m.vec.length cv, .string (ByteArray.mk m.body.toArray)] 36)).alloc (.cells #[.string (ByteArray.mk r.b.toArray), .int .i64 r.e] 74)).alloc (.cells #[.int .i64 0, .int .u64 0, .int .u64 0, .int .i64 0, .int .i64 0, .int .u64 0, .int .u64 0, .int .u64 0, .int .i64 0, .slice none 0 0, .string (ByteArray.mk #[])] 36)).alloc (.cells #[.string (ByteArray.mk #[]), .int .i64 0] 74)) = w4 at *
  refine (HC.out _).mono ?_
  rintro e w5 ⟨rfl, hb5⟩
  have T5 := T0.below hb5
  clear T0 hb5
  obtain ⟨p0, p1, n0, n1⟩ := NB.rw2 T5.p4
  have T6 := (T5.setR 0 (.string (ByteArray.mk R'.b.toArray))).setR 1 (.int .i64 R'.e)
  simp only [List.set] at T6
  have HT6 := Go.Lib.hid T6
  clear T6 HC
  by_cases he : R'.e = 0
  case neg =>
    have heb : (R'.e != 0) = true := by simpa using he
    have HE := Go.Lib.hid he
    clear he
    go_wp2_with fail
    have T := HT6.out
    clear HT6 T5 p0 p1 n0 n1
    generalize ((w5.setCell ⟨w.heap.size + 1, 0, none⟩ (.string (ByteArray.mk R'.b.toArray))).setCell ⟨w.heap.size + 1, 1, none⟩ (.int .i64 R'.e)) = w6 at *
    refine NB.wp_region_t [2, 3] (by kernel_rfl) ?_
    have T9 := T.below (dB w6)
    clear T
    generalize w6.drew = w7 at *
    have a3 := T9.p3; have a4 := T9.p4; have a6 := T9.p6; have a7 := T9.p7; have B7 := T9.bel
    clear T9
    refine NB.t_r 0 [2, 3] rfl (by kernel_rfl) (by kernel_rfl) (by go_simp) _ (fun w' hw' => NB.run_op_load_agg (off := 0) (m := 11) rfl rfl Tryd.underlying36 rfl _ _ _ a3 (by kernel_rfl) (Nat.le_refl _) _ rfl hw') (fun K hK => ?_); go_simp; refine hK _ ?_; clear hK K
    have A6 := (((((((((((a6.set 0 (.int .i64 m.kind)).set 1 (.int .u64 (m.ballot : Int))).set 2 (.int .u64 (m.slot : Int))).set 3 (.int .i64 m.shard)).set 4 (.int .i64 m.seg)).set 5 (.int .u64 (m.client : Int))).set 6 (.int .u64 (m.seq : Int))).set 7 (.int .u64 (m.pos : Int))).set 8 (.int .i64 m.code)).set 9 (.slice av m.vec.length cv)).set 10 (.string (ByteArray.mk m.body.toArray)))
    simp only [List.set] at A6
    have A7 := (((((((((((a7.other (g' := w.heap.size + 2) (by omega) 0 (.int .i64 m.kind)).other (g' := w.heap.size + 2) (by omega) 1 (.int .u64 (m.ballot : Int))).other (g' := w.heap.size + 2) (by omega) 2 (.int .u64 (m.slot : Int))).other (g' := w.heap.size + 2) (by omega) 3 (.int .i64 m.shard)).other (g' := w.heap.size + 2) (by omega) 4 (.int .i64 m.seg)).other (g' := w.heap.size + 2) (by omega) 5 (.int .u64 (m.client : Int))).other (g' := w.heap.size + 2) (by omega) 6 (.int .u64 (m.seq : Int))).other (g' := w.heap.size + 2) (by omega) 7 (.int .u64 (m.pos : Int))).other (g' := w.heap.size + 2) (by omega) 8 (.int .i64 m.code)).other (g' := w.heap.size + 2) (by omega) 9 (.slice av m.vec.length cv)).other (g' := w.heap.size + 2) (by omega) 10 (.string (ByteArray.mk m.body.toArray)))
    have B8 : Below w.heap.size w (((((((((((w7.setCell ⟨w.heap.size + 2, 0, none⟩ (.int .i64 m.kind)).setCell ⟨w.heap.size + 2, 1, none⟩ (.int .u64 (m.ballot : Int))).setCell ⟨w.heap.size + 2, 2, none⟩ (.int .u64 (m.slot : Int))).setCell ⟨w.heap.size + 2, 3, none⟩ (.int .i64 m.shard)).setCell ⟨w.heap.size + 2, 4, none⟩ (.int .i64 m.seg)).setCell ⟨w.heap.size + 2, 5, none⟩ (.int .u64 (m.client : Int))).setCell ⟨w.heap.size + 2, 6, none⟩ (.int .u64 (m.seq : Int))).setCell ⟨w.heap.size + 2, 7, none⟩ (.int .u64 (m.pos : Int))).setCell ⟨w.heap.size + 2, 8, none⟩ (.int .i64 m.code)).setCell ⟨w.heap.size + 2, 9, none⟩ (.slice av m.vec.length cv)).setCell ⟨w.heap.size + 2, 10, none⟩ (.string (ByteArray.mk m.body.toArray))) := (((((((((((B7.setCell (p := ⟨w.heap.size + 2, 0, none⟩) (by simp) (.int .i64 m.kind)).setCell (p := ⟨w.heap.size + 2, 1, none⟩) (by simp) (.int .u64 (m.ballot : Int))).setCell (p := ⟨w.heap.size + 2, 2, none⟩) (by simp) (.int .u64 (m.slot : Int))).setCell (p := ⟨w.heap.size + 2, 3, none⟩) (by simp) (.int .i64 m.shard)).setCell (p := ⟨w.heap.size + 2, 4, none⟩) (by simp) (.int .i64 m.seg)).setCell (p := ⟨w.heap.size + 2, 5, none⟩) (by simp) (.int .u64 (m.client : Int))).setCell (p := ⟨w.heap.size + 2, 6, none⟩) (by simp) (.int .u64 (m.seq : Int))).setCell (p := ⟨w.heap.size + 2, 7, none⟩) (by simp) (.int .u64 (m.pos : Int))).setCell (p := ⟨w.heap.size + 2, 8, none⟩) (by simp) (.int .i64 m.code)).setCell (p := ⟨w.heap.size + 2, 9, none⟩) (by simp) (.slice av m.vec.length cv)).setCell (p := ⟨w.heap.size + 2, 10, none⟩) (by simp) (.string (ByteArray.mk m.body.toArray)))
    have HA6 := Go.Lib.hid A6; have HA7 := Go.Lib.hid A7; have HB8 := Go.Lib.hid B8
    clear A6 A7 B8 B7 a7
    have q0 := a6.cell 0 _ rfl
    have g0 := a6.free 0
    have q1 := a6.cell 1 _ rfl
    have g1 := a6.free 1
    have q2 := a6.cell 2 _ rfl
    have g2 := a6.free 2
    have q3 := a6.cell 3 _ rfl
    have g3 := a6.free 3
    have q4 := a6.cell 4 _ rfl
    have g4 := a6.free 4
    have q5 := a6.cell 5 _ rfl
    have g5 := a6.free 5
    have q6 := a6.cell 6 _ rfl
    have g6 := a6.free 6
    have q7 := a6.cell 7 _ rfl
    have g7 := a6.free 7
    have q8 := a6.cell 8 _ rfl
    have g8 := a6.free 8
    have q9 := a6.cell 9 _ rfl
    have g9 := a6.free 9
    have q10 := a6.cell 10 _ rfl
    have g10 := a6.free 10
    have A4 := (((((((((((a4.other (g' := w.heap.size + 2) (by omega) 0 (.int .i64 m.kind)).other (g' := w.heap.size + 2) (by omega) 1 (.int .u64 (m.ballot : Int))).other (g' := w.heap.size + 2) (by omega) 2 (.int .u64 (m.slot : Int))).other (g' := w.heap.size + 2) (by omega) 3 (.int .i64 m.shard)).other (g' := w.heap.size + 2) (by omega) 4 (.int .i64 m.seg)).other (g' := w.heap.size + 2) (by omega) 5 (.int .u64 (m.client : Int))).other (g' := w.heap.size + 2) (by omega) 6 (.int .u64 (m.seq : Int))).other (g' := w.heap.size + 2) (by omega) 7 (.int .u64 (m.pos : Int))).other (g' := w.heap.size + 2) (by omega) 8 (.int .i64 m.code)).other (g' := w.heap.size + 2) (by omega) 9 (.slice av m.vec.length cv)).other (g' := w.heap.size + 2) (by omega) 10 (.string (ByteArray.mk m.body.toArray)))
    have HA4 := Go.Lib.hid A4
    clear A4
    refine NB.t_rs 1 2 rfl rfl (by kernel_rfl) (by kernel_rfl) (by kernel_rfl) (by kernel_rfl) (by kernel_rfl) (by intro _ _ h; cases h) (by intro _ _ h; cases h) (by go_simp) _ (by go_simp) (NB.run_op_load_agg (off := 0) (m := 2) rfl rfl Tryd.underlying74 rfl _ _ _ a4 (by kernel_rfl) (Nat.le_refl _) _ rfl (Below.refl _ w7)) (fun Q' hK => ?_)
    go_wp2
    refine hK _ _ (NB.run_op_load_agg (off := 0) (m := 2) rfl rfl Tryd.underlying74 rfl _ _ _ HA4.out (by kernel_rfl) (Nat.le_refl _) _ rfl (Below.refl _ _)) ?_
    clear hK Q' HA4 q0 g0 q1 g1 q2 g2 q3 g3 q4 g4 q5 g5 q6 g6 q7 g7 q8 g8 q9 g9 q10 g10
    generalize (((((((((((w7.setCell ⟨w.heap.size + 2, 0, none⟩ (.int .i64 m.kind)).setCell ⟨w.heap.size + 2, 1, none⟩ (.int .u64 (m.ballot : Int))).setCell ⟨w.heap.size + 2, 2, none⟩ (.int .u64 (m.slot : Int))).setCell ⟨w.heap.size + 2, 3, none⟩ (.int .i64 m.shard)).setCell ⟨w.heap.size + 2, 4, none⟩ (.int .i64 m.seg)).setCell ⟨w.heap.size + 2, 5, none⟩ (.int .u64 (m.client : Int))).setCell ⟨w.heap.size + 2, 6, none⟩ (.int .u64 (m.seq : Int))).setCell ⟨w.heap.size + 2, 7, none⟩ (.int .u64 (m.pos : Int))).setCell ⟨w.heap.size + 2, 8, none⟩ (.int .i64 m.code)).setCell ⟨w.heap.size + 2, 9, none⟩ (.slice av m.vec.length cv)).setCell ⟨w.heap.size + 2, 10, none⟩ (.string (ByteArray.mk m.body.toArray))) = w8 at *
    have A7 := HA7.out
    have F6 := HA6.out.other (g' := w.heap.size + 3) (by omega) 0 (.string (ByteArray.mk R'.b.toArray))
    have F6 := F6.other (g' := w.heap.size + 3) (by omega) 1 (.int .i64 R'.e)
    have F7 := (A7.set 0 (.string (ByteArray.mk R'.b.toArray))).set 1 (.int .i64 R'.e)
    simp only [List.set] at F7
    have B9 := (HB8.out.setCell (p := ⟨w.heap.size + 3, 0, none⟩) (by simp) (.string (ByteArray.mk R'.b.toArray))).setCell (p := ⟨w.heap.size + 3, 1, none⟩) (by simp) (.int .i64 R'.e)
    have HF6 := Go.Lib.hid F6; have HF7 := Go.Lib.hid F7; have HB9 := Go.Lib.hid B9
    clear F6 F7 B9
    obtain ⟨q0, q1, g0, g1⟩ := NB.rw2 A7
    refine NB.t_w 3 rfl (by kernel_rfl) (by kernel_rfl) rfl (fun Q' hK => ?_)
    go_wp2
    clear q0 q1 g0 g1 A7 HA6 HA7 HB8
    generalize ((w8.setCell ⟨w.heap.size + 3, 0, none⟩ (.string (ByteArray.mk R'.b.toArray))).setCell ⟨w.heap.size + 3, 1, none⟩ (.int .i64 R'.e)) = w9 at *
    refine NB.t_end (by kernel_rfl) ?_
    go_wp2
    have F6 := HF6.out; have F7 := HF7.out
    have q0 := F6.cell 0 _ rfl
    have q1 := F6.cell 1 _ rfl
    have q2 := F6.cell 2 _ rfl
    have q3 := F6.cell 3 _ rfl
    have q4 := F6.cell 4 _ rfl
    have q5 := F6.cell 5 _ rfl
    have q6 := F6.cell 6 _ rfl
    have q7 := F6.cell 7 _ rfl
    have q8 := F6.cell 8 _ rfl
    have q9 := F6.cell 9 _ rfl
    have q10 := F6.cell 10 _ rfl
    have c0 := F7.cell 0 _ rfl
    have c1 := F7.cell 1 _ rfl
    have hlt := F7.lt
    have hlt6 := F6.lt
    refine bodyPost_ret (v := .tuple #[.agg #[.int .i64 m.kind, .int .u64 (m.ballot : Int), .int .u64 (m.slot : Int), .int .i64 m.shard, .int .i64 m.seg, .int .u64 (m.client : Int), .int .u64 (m.seq : Int), .int .u64 (m.pos : Int), .int .i64 m.code, .slice av m.vec.length cv, .string (ByteArray.mk m.body.toArray)], .agg #[.string (ByteArray.mk R'.b.toArray), .int .i64 R'.e]]) (by simp [results, Tryd.results30, go_sem, q0, q1, q2, q3, q4, q5, q6, q7, q8, q9, q10, c0, c1, hlt, hlt6]) rfl ?_
    exact take_mk R' (show (readF 3 m r).1 = R' from (show (Rr.upto 11 4 r).1 = R' by rw [upto_er HRX.out 11 4 HE.out])) (by decide) m rfl HR.out HB9.out (fun h => absurd h HE.out)
  have heb : (R'.e != 0) = false := by simpa using he
  have HE := Go.Lib.hid he
  clear he
  by_cases hxb : 4 ≤ x
  · have hxi : (4 : Int) ≤ (x : Int) := by omega
    have HXB := Go.Lib.hid hxb
    clear hxb
    have T7 := HT6.out.setR 1 (.int .i64 11)
    have HT7 := Go.Lib.hid T7
    clear HT6 T7
    go_wp2_with fail
    have T := HT7.out
    clear HT7 T5 p0 p1 n0 n1
    simp only [List.set] at T
    generalize ((((w5.setCell ⟨w.heap.size + 1, 0, none⟩ (.string (ByteArray.mk R'.b.toArray))).setCell ⟨w.heap.size + 1, 1, none⟩ (.int .i64 R'.e))).setCell ⟨w.heap.size + 1, 1, none⟩ (.int .i64 11)) = w6 at *
    refine NB.wp_region_t [2, 3] (by kernel_rfl) ?_
    have T9 := T.below (dB w6)
    clear T
    generalize w6.drew = w7 at *
    have a3 := T9.p3; have a4 := T9.p4; have a6 := T9.p6; have a7 := T9.p7; have B7 := T9.bel
    clear T9
    refine NB.t_r 0 [2, 3] rfl (by kernel_rfl) (by kernel_rfl) (by go_simp) _ (fun w' hw' => NB.run_op_load_agg (off := 0) (m := 11) rfl rfl Tryd.underlying36 rfl _ _ _ a3 (by kernel_rfl) (Nat.le_refl _) _ rfl hw') (fun K hK => ?_); go_simp; refine hK _ ?_; clear hK K
    have A6 := (((((((((((a6.set 0 (.int .i64 m.kind)).set 1 (.int .u64 (m.ballot : Int))).set 2 (.int .u64 (m.slot : Int))).set 3 (.int .i64 m.shard)).set 4 (.int .i64 m.seg)).set 5 (.int .u64 (m.client : Int))).set 6 (.int .u64 (m.seq : Int))).set 7 (.int .u64 (m.pos : Int))).set 8 (.int .i64 m.code)).set 9 (.slice av m.vec.length cv)).set 10 (.string (ByteArray.mk m.body.toArray)))
    simp only [List.set] at A6
    have A7 := (((((((((((a7.other (g' := w.heap.size + 2) (by omega) 0 (.int .i64 m.kind)).other (g' := w.heap.size + 2) (by omega) 1 (.int .u64 (m.ballot : Int))).other (g' := w.heap.size + 2) (by omega) 2 (.int .u64 (m.slot : Int))).other (g' := w.heap.size + 2) (by omega) 3 (.int .i64 m.shard)).other (g' := w.heap.size + 2) (by omega) 4 (.int .i64 m.seg)).other (g' := w.heap.size + 2) (by omega) 5 (.int .u64 (m.client : Int))).other (g' := w.heap.size + 2) (by omega) 6 (.int .u64 (m.seq : Int))).other (g' := w.heap.size + 2) (by omega) 7 (.int .u64 (m.pos : Int))).other (g' := w.heap.size + 2) (by omega) 8 (.int .i64 m.code)).other (g' := w.heap.size + 2) (by omega) 9 (.slice av m.vec.length cv)).other (g' := w.heap.size + 2) (by omega) 10 (.string (ByteArray.mk m.body.toArray)))
    have B8 : Below w.heap.size w (((((((((((w7.setCell ⟨w.heap.size + 2, 0, none⟩ (.int .i64 m.kind)).setCell ⟨w.heap.size + 2, 1, none⟩ (.int .u64 (m.ballot : Int))).setCell ⟨w.heap.size + 2, 2, none⟩ (.int .u64 (m.slot : Int))).setCell ⟨w.heap.size + 2, 3, none⟩ (.int .i64 m.shard)).setCell ⟨w.heap.size + 2, 4, none⟩ (.int .i64 m.seg)).setCell ⟨w.heap.size + 2, 5, none⟩ (.int .u64 (m.client : Int))).setCell ⟨w.heap.size + 2, 6, none⟩ (.int .u64 (m.seq : Int))).setCell ⟨w.heap.size + 2, 7, none⟩ (.int .u64 (m.pos : Int))).setCell ⟨w.heap.size + 2, 8, none⟩ (.int .i64 m.code)).setCell ⟨w.heap.size + 2, 9, none⟩ (.slice av m.vec.length cv)).setCell ⟨w.heap.size + 2, 10, none⟩ (.string (ByteArray.mk m.body.toArray))) := (((((((((((B7.setCell (p := ⟨w.heap.size + 2, 0, none⟩) (by simp) (.int .i64 m.kind)).setCell (p := ⟨w.heap.size + 2, 1, none⟩) (by simp) (.int .u64 (m.ballot : Int))).setCell (p := ⟨w.heap.size + 2, 2, none⟩) (by simp) (.int .u64 (m.slot : Int))).setCell (p := ⟨w.heap.size + 2, 3, none⟩) (by simp) (.int .i64 m.shard)).setCell (p := ⟨w.heap.size + 2, 4, none⟩) (by simp) (.int .i64 m.seg)).setCell (p := ⟨w.heap.size + 2, 5, none⟩) (by simp) (.int .u64 (m.client : Int))).setCell (p := ⟨w.heap.size + 2, 6, none⟩) (by simp) (.int .u64 (m.seq : Int))).setCell (p := ⟨w.heap.size + 2, 7, none⟩) (by simp) (.int .u64 (m.pos : Int))).setCell (p := ⟨w.heap.size + 2, 8, none⟩) (by simp) (.int .i64 m.code)).setCell (p := ⟨w.heap.size + 2, 9, none⟩) (by simp) (.slice av m.vec.length cv)).setCell (p := ⟨w.heap.size + 2, 10, none⟩) (by simp) (.string (ByteArray.mk m.body.toArray)))
    have HA6 := Go.Lib.hid A6; have HA7 := Go.Lib.hid A7; have HB8 := Go.Lib.hid B8
    clear A6 A7 B8 B7 a7
    have q0 := a6.cell 0 _ rfl
    have g0 := a6.free 0
    have q1 := a6.cell 1 _ rfl
    have g1 := a6.free 1
    have q2 := a6.cell 2 _ rfl
    have g2 := a6.free 2
    have q3 := a6.cell 3 _ rfl
    have g3 := a6.free 3
    have q4 := a6.cell 4 _ rfl
    have g4 := a6.free 4
    have q5 := a6.cell 5 _ rfl
    have g5 := a6.free 5
    have q6 := a6.cell 6 _ rfl
    have g6 := a6.free 6
    have q7 := a6.cell 7 _ rfl
    have g7 := a6.free 7
    have q8 := a6.cell 8 _ rfl
    have g8 := a6.free 8
    have q9 := a6.cell 9 _ rfl
    have g9 := a6.free 9
    have q10 := a6.cell 10 _ rfl
    have g10 := a6.free 10
    have A4 := (((((((((((a4.other (g' := w.heap.size + 2) (by omega) 0 (.int .i64 m.kind)).other (g' := w.heap.size + 2) (by omega) 1 (.int .u64 (m.ballot : Int))).other (g' := w.heap.size + 2) (by omega) 2 (.int .u64 (m.slot : Int))).other (g' := w.heap.size + 2) (by omega) 3 (.int .i64 m.shard)).other (g' := w.heap.size + 2) (by omega) 4 (.int .i64 m.seg)).other (g' := w.heap.size + 2) (by omega) 5 (.int .u64 (m.client : Int))).other (g' := w.heap.size + 2) (by omega) 6 (.int .u64 (m.seq : Int))).other (g' := w.heap.size + 2) (by omega) 7 (.int .u64 (m.pos : Int))).other (g' := w.heap.size + 2) (by omega) 8 (.int .i64 m.code)).other (g' := w.heap.size + 2) (by omega) 9 (.slice av m.vec.length cv)).other (g' := w.heap.size + 2) (by omega) 10 (.string (ByteArray.mk m.body.toArray)))
    have HA4 := Go.Lib.hid A4
    clear A4
    refine NB.t_rs 1 2 rfl rfl (by kernel_rfl) (by kernel_rfl) (by kernel_rfl) (by kernel_rfl) (by kernel_rfl) (by intro _ _ h; cases h) (by intro _ _ h; cases h) (by go_simp) _ (by go_simp) (NB.run_op_load_agg (off := 0) (m := 2) rfl rfl Tryd.underlying74 rfl _ _ _ a4 (by kernel_rfl) (Nat.le_refl _) _ rfl (Below.refl _ w7)) (fun Q' hK => ?_)
    go_wp2
    refine hK _ _ (NB.run_op_load_agg (off := 0) (m := 2) rfl rfl Tryd.underlying74 rfl _ _ _ HA4.out (by kernel_rfl) (Nat.le_refl _) _ rfl (Below.refl _ _)) ?_
    clear hK Q' HA4 q0 g0 q1 g1 q2 g2 q3 g3 q4 g4 q5 g5 q6 g6 q7 g7 q8 g8 q9 g9 q10 g10
    generalize (((((((((((w7.setCell ⟨w.heap.size + 2, 0, none⟩ (.int .i64 m.kind)).setCell ⟨w.heap.size + 2, 1, none⟩ (.int .u64 (m.ballot : Int))).setCell ⟨w.heap.size + 2, 2, none⟩ (.int .u64 (m.slot : Int))).setCell ⟨w.heap.size + 2, 3, none⟩ (.int .i64 m.shard)).setCell ⟨w.heap.size + 2, 4, none⟩ (.int .i64 m.seg)).setCell ⟨w.heap.size + 2, 5, none⟩ (.int .u64 (m.client : Int))).setCell ⟨w.heap.size + 2, 6, none⟩ (.int .u64 (m.seq : Int))).setCell ⟨w.heap.size + 2, 7, none⟩ (.int .u64 (m.pos : Int))).setCell ⟨w.heap.size + 2, 8, none⟩ (.int .i64 m.code)).setCell ⟨w.heap.size + 2, 9, none⟩ (.slice av m.vec.length cv)).setCell ⟨w.heap.size + 2, 10, none⟩ (.string (ByteArray.mk m.body.toArray))) = w8 at *
    have A7 := HA7.out
    have F6 := HA6.out.other (g' := w.heap.size + 3) (by omega) 0 (.string (ByteArray.mk R'.b.toArray))
    have F6 := F6.other (g' := w.heap.size + 3) (by omega) 1 (.int .i64 11)
    have F7 := (A7.set 0 (.string (ByteArray.mk R'.b.toArray))).set 1 (.int .i64 11)
    simp only [List.set] at F7
    have B9 := (HB8.out.setCell (p := ⟨w.heap.size + 3, 0, none⟩) (by simp) (.string (ByteArray.mk R'.b.toArray))).setCell (p := ⟨w.heap.size + 3, 1, none⟩) (by simp) (.int .i64 11)
    have HF6 := Go.Lib.hid F6; have HF7 := Go.Lib.hid F7; have HB9 := Go.Lib.hid B9
    clear F6 F7 B9
    obtain ⟨q0, q1, g0, g1⟩ := NB.rw2 A7
    refine NB.t_w 3 rfl (by kernel_rfl) (by kernel_rfl) rfl (fun Q' hK => ?_)
    go_wp2
    clear q0 q1 g0 g1 A7 HA6 HA7 HB8
    generalize ((w8.setCell ⟨w.heap.size + 3, 0, none⟩ (.string (ByteArray.mk R'.b.toArray))).setCell ⟨w.heap.size + 3, 1, none⟩ (.int .i64 11)) = w9 at *
    refine NB.t_end (by kernel_rfl) ?_
    go_wp2
    have F6 := HF6.out; have F7 := HF7.out
    have q0 := F6.cell 0 _ rfl
    have q1 := F6.cell 1 _ rfl
    have q2 := F6.cell 2 _ rfl
    have q3 := F6.cell 3 _ rfl
    have q4 := F6.cell 4 _ rfl
    have q5 := F6.cell 5 _ rfl
    have q6 := F6.cell 6 _ rfl
    have q7 := F6.cell 7 _ rfl
    have q8 := F6.cell 8 _ rfl
    have q9 := F6.cell 9 _ rfl
    have q10 := F6.cell 10 _ rfl
    have c0 := F7.cell 0 _ rfl
    have c1 := F7.cell 1 _ rfl
    have hlt := F7.lt
    have hlt6 := F6.lt
    refine bodyPost_ret (v := .tuple #[.agg #[.int .i64 m.kind, .int .u64 (m.ballot : Int), .int .u64 (m.slot : Int), .int .i64 m.shard, .int .i64 m.seg, .int .u64 (m.client : Int), .int .u64 (m.seq : Int), .int .u64 (m.pos : Int), .int .i64 m.code, .slice av m.vec.length cv, .string (ByteArray.mk m.body.toArray)], .agg #[.string (ByteArray.mk R'.b.toArray), .int .i64 11]]) (by simp [results, Tryd.results30, go_sem, q0, q1, q2, q3, q4, q5, q6, q7, q8, q9, q10, c0, c1, hlt, hlt6]) rfl ?_
    exact take_mk ⟨R'.b, 11⟩ (show (readF 3 m r).1 = ⟨R'.b, 11⟩ from (show (Rr.upto 11 4 r).1 = ⟨R'.b, 11⟩ by rw [upto_big HRX.out 11 4 HE.out HXB.out])) (by decide) m rfl HR.out HB9.out (fun h => absurd h (show ¬ (11 : Int) = 0 by decide))
  have hxi : ¬ (4 : Int) ≤ (x : Int) := by omega
  have hwx : IntKind.i64.wrap (x : Int) = (x : Int) := IntWalk.i64_in _ (by omega)
  have hwx2 : wrap64 (x : Int) = (x : Int) := by unfold wrap64; omega
  have hxl : x < 4 := by omega
  have HXB := Go.Lib.hid hxl
  clear hxb hxl
  have T7 := HT6.out.setM 4 (.int .i64 (x : Int))
  have d := T5.p3.cell 4 _ rfl
  have fd := T5.p3.free 4
  have HT7 := Go.Lib.hid T7
  clear HT6 T7
  go_wp2_with fail
  have T := HT7.out
  clear HT7 T5 p0 p1 n0 n1 d fd
  generalize ((w5.setCell ⟨w.heap.size + 1, 0, none⟩ (.string (ByteArray.mk R'.b.toArray))).setCell ⟨w.heap.size + 1, 1, none⟩ (.int .i64 R'.e)).setCell ⟨w.heap.size, 4, none⟩ (.int .i64 (x : Int)) = w6 at *
  simp only [List.set] at T
  refine NB.wp_region_t [2, 3] (by kernel_rfl) ?_
  have T9 := T.below (dB w6)
  clear T
  generalize w6.drew = w7 at *
  have a3 := T9.p3; have a4 := T9.p4; have a6 := T9.p6; have a7 := T9.p7; have B7 := T9.bel
  clear T9
  refine NB.t_r 0 [2, 3] rfl (by kernel_rfl) (by kernel_rfl) (by go_simp) _ (fun w' hw' => NB.run_op_load_agg (off := 0) (m := 11) rfl rfl Tryd.underlying36 rfl _ _ _ a3 (by kernel_rfl) (Nat.le_refl _) _ rfl hw') (fun K hK => ?_); go_simp; refine hK _ ?_; clear hK K
  have A6 := (((((((((((a6.set 0 (.int .i64 m.kind)).set 1 (.int .u64 (m.ballot : Int))).set 2 (.int .u64 (m.slot : Int))).set 3 (.int .i64 m.shard)).set 4 (.int .i64 (x : Int))).set 5 (.int .u64 (m.client : Int))).set 6 (.int .u64 (m.seq : Int))).set 7 (.int .u64 (m.pos : Int))).set 8 (.int .i64 m.code)).set 9 (.slice av m.vec.length cv)).set 10 (.string (ByteArray.mk m.body.toArray)))
  simp only [List.set] at A6
  have A7 := (((((((((((a7.other (g' := w.heap.size + 2) (by omega) 0 (.int .i64 m.kind)).other (g' := w.heap.size + 2) (by omega) 1 (.int .u64 (m.ballot : Int))).other (g' := w.heap.size + 2) (by omega) 2 (.int .u64 (m.slot : Int))).other (g' := w.heap.size + 2) (by omega) 3 (.int .i64 m.shard)).other (g' := w.heap.size + 2) (by omega) 4 (.int .i64 (x : Int))).other (g' := w.heap.size + 2) (by omega) 5 (.int .u64 (m.client : Int))).other (g' := w.heap.size + 2) (by omega) 6 (.int .u64 (m.seq : Int))).other (g' := w.heap.size + 2) (by omega) 7 (.int .u64 (m.pos : Int))).other (g' := w.heap.size + 2) (by omega) 8 (.int .i64 m.code)).other (g' := w.heap.size + 2) (by omega) 9 (.slice av m.vec.length cv)).other (g' := w.heap.size + 2) (by omega) 10 (.string (ByteArray.mk m.body.toArray)))
  have B8 : Below w.heap.size w (((((((((((w7.setCell ⟨w.heap.size + 2, 0, none⟩ (.int .i64 m.kind)).setCell ⟨w.heap.size + 2, 1, none⟩ (.int .u64 (m.ballot : Int))).setCell ⟨w.heap.size + 2, 2, none⟩ (.int .u64 (m.slot : Int))).setCell ⟨w.heap.size + 2, 3, none⟩ (.int .i64 m.shard)).setCell ⟨w.heap.size + 2, 4, none⟩ (.int .i64 (x : Int))).setCell ⟨w.heap.size + 2, 5, none⟩ (.int .u64 (m.client : Int))).setCell ⟨w.heap.size + 2, 6, none⟩ (.int .u64 (m.seq : Int))).setCell ⟨w.heap.size + 2, 7, none⟩ (.int .u64 (m.pos : Int))).setCell ⟨w.heap.size + 2, 8, none⟩ (.int .i64 m.code)).setCell ⟨w.heap.size + 2, 9, none⟩ (.slice av m.vec.length cv)).setCell ⟨w.heap.size + 2, 10, none⟩ (.string (ByteArray.mk m.body.toArray))) := (((((((((((B7.setCell (p := ⟨w.heap.size + 2, 0, none⟩) (by simp) (.int .i64 m.kind)).setCell (p := ⟨w.heap.size + 2, 1, none⟩) (by simp) (.int .u64 (m.ballot : Int))).setCell (p := ⟨w.heap.size + 2, 2, none⟩) (by simp) (.int .u64 (m.slot : Int))).setCell (p := ⟨w.heap.size + 2, 3, none⟩) (by simp) (.int .i64 m.shard)).setCell (p := ⟨w.heap.size + 2, 4, none⟩) (by simp) (.int .i64 (x : Int))).setCell (p := ⟨w.heap.size + 2, 5, none⟩) (by simp) (.int .u64 (m.client : Int))).setCell (p := ⟨w.heap.size + 2, 6, none⟩) (by simp) (.int .u64 (m.seq : Int))).setCell (p := ⟨w.heap.size + 2, 7, none⟩) (by simp) (.int .u64 (m.pos : Int))).setCell (p := ⟨w.heap.size + 2, 8, none⟩) (by simp) (.int .i64 m.code)).setCell (p := ⟨w.heap.size + 2, 9, none⟩) (by simp) (.slice av m.vec.length cv)).setCell (p := ⟨w.heap.size + 2, 10, none⟩) (by simp) (.string (ByteArray.mk m.body.toArray)))
  have HA6 := Go.Lib.hid A6; have HA7 := Go.Lib.hid A7; have HB8 := Go.Lib.hid B8
  clear A6 A7 B8 B7 a7
  have q0 := a6.cell 0 _ rfl
  have g0 := a6.free 0
  have q1 := a6.cell 1 _ rfl
  have g1 := a6.free 1
  have q2 := a6.cell 2 _ rfl
  have g2 := a6.free 2
  have q3 := a6.cell 3 _ rfl
  have g3 := a6.free 3
  have q4 := a6.cell 4 _ rfl
  have g4 := a6.free 4
  have q5 := a6.cell 5 _ rfl
  have g5 := a6.free 5
  have q6 := a6.cell 6 _ rfl
  have g6 := a6.free 6
  have q7 := a6.cell 7 _ rfl
  have g7 := a6.free 7
  have q8 := a6.cell 8 _ rfl
  have g8 := a6.free 8
  have q9 := a6.cell 9 _ rfl
  have g9 := a6.free 9
  have q10 := a6.cell 10 _ rfl
  have g10 := a6.free 10
  have A4 := (((((((((((a4.other (g' := w.heap.size + 2) (by omega) 0 (.int .i64 m.kind)).other (g' := w.heap.size + 2) (by omega) 1 (.int .u64 (m.ballot : Int))).other (g' := w.heap.size + 2) (by omega) 2 (.int .u64 (m.slot : Int))).other (g' := w.heap.size + 2) (by omega) 3 (.int .i64 m.shard)).other (g' := w.heap.size + 2) (by omega) 4 (.int .i64 (x : Int))).other (g' := w.heap.size + 2) (by omega) 5 (.int .u64 (m.client : Int))).other (g' := w.heap.size + 2) (by omega) 6 (.int .u64 (m.seq : Int))).other (g' := w.heap.size + 2) (by omega) 7 (.int .u64 (m.pos : Int))).other (g' := w.heap.size + 2) (by omega) 8 (.int .i64 m.code)).other (g' := w.heap.size + 2) (by omega) 9 (.slice av m.vec.length cv)).other (g' := w.heap.size + 2) (by omega) 10 (.string (ByteArray.mk m.body.toArray)))
  have HA4 := Go.Lib.hid A4
  clear A4
  refine NB.t_rs 1 2 rfl rfl (by kernel_rfl) (by kernel_rfl) (by kernel_rfl) (by kernel_rfl) (by kernel_rfl) (by intro _ _ h; cases h) (by intro _ _ h; cases h) (by go_simp) _ (by go_simp) (NB.run_op_load_agg (off := 0) (m := 2) rfl rfl Tryd.underlying74 rfl _ _ _ a4 (by kernel_rfl) (Nat.le_refl _) _ rfl (Below.refl _ w7)) (fun Q' hK => ?_)
  go_wp2
  refine hK _ _ (NB.run_op_load_agg (off := 0) (m := 2) rfl rfl Tryd.underlying74 rfl _ _ _ HA4.out (by kernel_rfl) (Nat.le_refl _) _ rfl (Below.refl _ _)) ?_
  clear hK Q' HA4 q0 g0 q1 g1 q2 g2 q3 g3 q4 g4 q5 g5 q6 g6 q7 g7 q8 g8 q9 g9 q10 g10
  generalize (((((((((((w7.setCell ⟨w.heap.size + 2, 0, none⟩ (.int .i64 m.kind)).setCell ⟨w.heap.size + 2, 1, none⟩ (.int .u64 (m.ballot : Int))).setCell ⟨w.heap.size + 2, 2, none⟩ (.int .u64 (m.slot : Int))).setCell ⟨w.heap.size + 2, 3, none⟩ (.int .i64 m.shard)).setCell ⟨w.heap.size + 2, 4, none⟩ (.int .i64 (x : Int))).setCell ⟨w.heap.size + 2, 5, none⟩ (.int .u64 (m.client : Int))).setCell ⟨w.heap.size + 2, 6, none⟩ (.int .u64 (m.seq : Int))).setCell ⟨w.heap.size + 2, 7, none⟩ (.int .u64 (m.pos : Int))).setCell ⟨w.heap.size + 2, 8, none⟩ (.int .i64 m.code)).setCell ⟨w.heap.size + 2, 9, none⟩ (.slice av m.vec.length cv)).setCell ⟨w.heap.size + 2, 10, none⟩ (.string (ByteArray.mk m.body.toArray))) = w8 at *
  have A7 := HA7.out
  have F6 := HA6.out.other (g' := w.heap.size + 3) (by omega) 0 (.string (ByteArray.mk R'.b.toArray))
  have F6 := F6.other (g' := w.heap.size + 3) (by omega) 1 (.int .i64 R'.e)
  have F7 := (A7.set 0 (.string (ByteArray.mk R'.b.toArray))).set 1 (.int .i64 R'.e)
  simp only [List.set] at F7
  have B9 := (HB8.out.setCell (p := ⟨w.heap.size + 3, 0, none⟩) (by simp) (.string (ByteArray.mk R'.b.toArray))).setCell (p := ⟨w.heap.size + 3, 1, none⟩) (by simp) (.int .i64 R'.e)
  have HF6 := Go.Lib.hid F6; have HF7 := Go.Lib.hid F7; have HB9 := Go.Lib.hid B9
  clear F6 F7 B9
  obtain ⟨q0, q1, g0, g1⟩ := NB.rw2 A7
  refine NB.t_w 3 rfl (by kernel_rfl) (by kernel_rfl) rfl (fun Q' hK => ?_)
  go_wp2
  clear q0 q1 g0 g1 A7 HA6 HA7 HB8
  generalize ((w8.setCell ⟨w.heap.size + 3, 0, none⟩ (.string (ByteArray.mk R'.b.toArray))).setCell ⟨w.heap.size + 3, 1, none⟩ (.int .i64 R'.e)) = w9 at *
  refine NB.t_end (by kernel_rfl) ?_
  go_wp2
  have F6 := HF6.out; have F7 := HF7.out
  have q0 := F6.cell 0 _ rfl
  have q1 := F6.cell 1 _ rfl
  have q2 := F6.cell 2 _ rfl
  have q3 := F6.cell 3 _ rfl
  have q4 := F6.cell 4 _ rfl
  have q5 := F6.cell 5 _ rfl
  have q6 := F6.cell 6 _ rfl
  have q7 := F6.cell 7 _ rfl
  have q8 := F6.cell 8 _ rfl
  have q9 := F6.cell 9 _ rfl
  have q10 := F6.cell 10 _ rfl
  have c0 := F7.cell 0 _ rfl
  have c1 := F7.cell 1 _ rfl
  have hlt := F7.lt
  have hlt6 := F6.lt
  refine bodyPost_ret (v := .tuple #[.agg #[.int .i64 m.kind, .int .u64 (m.ballot : Int), .int .u64 (m.slot : Int), .int .i64 m.shard, .int .i64 (x : Int), .int .u64 (m.client : Int), .int .u64 (m.seq : Int), .int .u64 (m.pos : Int), .int .i64 m.code, .slice av m.vec.length cv, .string (ByteArray.mk m.body.toArray)], .agg #[.string (ByteArray.mk R'.b.toArray), .int .i64 R'.e]]) (by simp [results, Tryd.results30, go_sem, q0, q1, q2, q3, q4, q5, q6, q7, q8, q9, q10, c0, c1, hlt, hlt6]) rfl ?_
  exact take_mk R' (show (readF 3 m r).1 = R' from (show (Rr.upto 11 4 r).1 = R' by rw [upto_ok HRX.out 11 4 HXB.out])) (by decide) { m with seg := (x : Int) } rfl HR.out HB9.out (fun _ => by show _ = { m with seg := ((Rr.upto 11 4 r).2 : Int) }; rw [upto_ok HRX.out 11 4 HXB.out])

set_option maxRecDepth 100000 in
set_option maxHeartbeats 8000000 in
theorem take_7 (w : World) (m : Mm) (av : Option Addr) (cv : Nat) (r : Rr) (hR : RdU w av m.vec.length cv m.vec) (hl : r.b.length ≤ 100000000) :
    Calls Tryd.prog 30 #[.agg #[.int .i64 m.kind, .int .u64 (m.ballot : Int), .int .u64 (m.slot : Int), .int .i64 m.shard, .int .i64 m.seg, .int .u64 (m.client : Int), .int .u64 (m.seq : Int), .int .u64 (m.pos : Int), .int .i64 m.code, .slice av m.vec.length cv, .string (ByteArray.mk m.body.toArray)], .agg #[.string (ByteArray.mk r.b.toArray), .int .i64 r.e], .int .u8 100] w (TakeE w 7 m av cv r) := by
  have ctr := fun w => refRead_any w r hl
  unfold refR RefRU at ctr
  obtain ⟨R', x, hrx⟩ : ∃ R' x, r.uint = (R', x) := ⟨_, _, rfl⟩
  rw [hrx] at ctr
  simp only at ctr
  have HC := Go.Lib.hid ctr; have HRX := Go.Lib.hid hrx
  clear ctr hrx
  have T0 := TK.start w (.int .i64 m.kind) (.int .u64 (m.ballot : Int)) (.int .u64 (m.slot : Int)) (.int .i64 m.shard) (.int .i64 m.seg) (.int .u64 (m.client : Int)) (.int .u64 (m.seq : Int)) (.int .u64 (m.pos : Int)) (.int .i64 m.code) (.slice av m.vec.length cv) (.string (ByteArray.mk m.body.toArray)) (.string (ByteArray.mk r.b.toArray)) (.int .i64 r.e)
  have HR := Go.Lib.hid hR
  clear hR
  go_enter Tryd.func30, Tryd.ntmps30
  go_wp2_with fail
  generalize ((((w.alloc (.cells #[.int .i64 m.kind, .int .u64 (m.ballot : Int), .int .u64 (m.slot : Int), .int .i64 m.shard, .int .i64 m.seg, .int .u64 (m.client : Int), .int .u64 (m.seq : Int), .int .u64 (m.pos : Int), .int .i64 m.code, .slice av m.vec.length cv, .string (ByteArray.mk m.body.toArray)] 36)).alloc (.cells #[.string (ByteArray.mk r.b.toArray), .int .i64 r.e] 74)).alloc (.cells #[.int .i64 0, .int .u64 0, .int .u64 0, .int .i64 0, .int .i64 0, .int .u64 0, .int .u64 0, .int .u64 0, .int .i64 0, .slice none 0 0, .string (ByteArray.mk #[])] 36)).alloc (.cells #[.string (ByteArray.mk #[]), .int .i64 0] 74)) = w4 at *
  refine (HC.out _).mono ?_
  rintro e w5 ⟨rfl, hb5⟩
  have T5 := T0.below hb5
  clear T0 hb5
  obtain ⟨p0, p1, n0, n1⟩ := NB.rw2 T5.p4
  have T6 := (T5.setR 0 (.string (ByteArray.mk R'.b.toArray))).setR 1 (.int .i64 R'.e)
  simp only [List.set] at T6
  have HT6 := Go.Lib.hid T6
  clear T6 HC
  by_cases he : R'.e = 0
  case neg =>
    have heb : (R'.e != 0) = true := by simpa using he
    have HE := Go.Lib.hid he
    clear he
    go_wp2_with fail
    have T := HT6.out
    clear HT6 T5 p0 p1 n0 n1
    generalize ((w5.setCell ⟨w.heap.size + 1, 0, none⟩ (.string (ByteArray.mk R'.b.toArray))).setCell ⟨w.heap.size + 1, 1, none⟩ (.int .i64 R'.e)) = w6 at *
    refine NB.wp_region_t [2, 3] (by kernel_rfl) ?_
    have T9 := T.below (dB w6)
    clear T
    generalize w6.drew = w7 at *
    have a3 := T9.p3; have a4 := T9.p4; have a6 := T9.p6; have a7 := T9.p7; have B7 := T9.bel
    clear T9
    refine NB.t_r 0 [2, 3] rfl (by kernel_rfl) (by kernel_rfl) (by go_simp) _ (fun w' hw' => NB.run_op_load_agg (off := 0) (m := 11) rfl rfl Tryd.underlying36 rfl _ _ _ a3 (by kernel_rfl) (Nat.le_refl _) _ rfl hw') (fun K hK => ?_); go_simp; refine hK _ ?_; clear hK K
    have A6 := (((((((((((a6.set 0 (.int .i64 m.kind)).set 1 (.int .u64 (m.ballot : Int))).set 2 (.int .u64 (m.slot : Int))).set 3 (.int .i64 m.shard)).set 4 (.int .i64 m.seg)).set 5 (.int .u64 (m.client : Int))).set 6 (.int .u64 (m.seq : Int))).set 7 (.int .u64 (m.pos : Int))).set 8 (.int .i64 m.code)).set 9 (.slice av m.vec.length cv)).set 10 (.string (ByteArray.mk m.body.toArray)))
    simp only [List.set] at A6
    have A7 := (((((((((((a7.other (g' := w.heap.size + 2) (by omega) 0 (.int .i64 m.kind)).other (g' := w.heap.size + 2) (by omega) 1 (.int .u64 (m.ballot : Int))).other (g' := w.heap.size + 2) (by omega) 2 (.int .u64 (m.slot : Int))).other (g' := w.heap.size + 2) (by omega) 3 (.int .i64 m.shard)).other (g' := w.heap.size + 2) (by omega) 4 (.int .i64 m.seg)).other (g' := w.heap.size + 2) (by omega) 5 (.int .u64 (m.client : Int))).other (g' := w.heap.size + 2) (by omega) 6 (.int .u64 (m.seq : Int))).other (g' := w.heap.size + 2) (by omega) 7 (.int .u64 (m.pos : Int))).other (g' := w.heap.size + 2) (by omega) 8 (.int .i64 m.code)).other (g' := w.heap.size + 2) (by omega) 9 (.slice av m.vec.length cv)).other (g' := w.heap.size + 2) (by omega) 10 (.string (ByteArray.mk m.body.toArray)))
    have B8 : Below w.heap.size w (((((((((((w7.setCell ⟨w.heap.size + 2, 0, none⟩ (.int .i64 m.kind)).setCell ⟨w.heap.size + 2, 1, none⟩ (.int .u64 (m.ballot : Int))).setCell ⟨w.heap.size + 2, 2, none⟩ (.int .u64 (m.slot : Int))).setCell ⟨w.heap.size + 2, 3, none⟩ (.int .i64 m.shard)).setCell ⟨w.heap.size + 2, 4, none⟩ (.int .i64 m.seg)).setCell ⟨w.heap.size + 2, 5, none⟩ (.int .u64 (m.client : Int))).setCell ⟨w.heap.size + 2, 6, none⟩ (.int .u64 (m.seq : Int))).setCell ⟨w.heap.size + 2, 7, none⟩ (.int .u64 (m.pos : Int))).setCell ⟨w.heap.size + 2, 8, none⟩ (.int .i64 m.code)).setCell ⟨w.heap.size + 2, 9, none⟩ (.slice av m.vec.length cv)).setCell ⟨w.heap.size + 2, 10, none⟩ (.string (ByteArray.mk m.body.toArray))) := (((((((((((B7.setCell (p := ⟨w.heap.size + 2, 0, none⟩) (by simp) (.int .i64 m.kind)).setCell (p := ⟨w.heap.size + 2, 1, none⟩) (by simp) (.int .u64 (m.ballot : Int))).setCell (p := ⟨w.heap.size + 2, 2, none⟩) (by simp) (.int .u64 (m.slot : Int))).setCell (p := ⟨w.heap.size + 2, 3, none⟩) (by simp) (.int .i64 m.shard)).setCell (p := ⟨w.heap.size + 2, 4, none⟩) (by simp) (.int .i64 m.seg)).setCell (p := ⟨w.heap.size + 2, 5, none⟩) (by simp) (.int .u64 (m.client : Int))).setCell (p := ⟨w.heap.size + 2, 6, none⟩) (by simp) (.int .u64 (m.seq : Int))).setCell (p := ⟨w.heap.size + 2, 7, none⟩) (by simp) (.int .u64 (m.pos : Int))).setCell (p := ⟨w.heap.size + 2, 8, none⟩) (by simp) (.int .i64 m.code)).setCell (p := ⟨w.heap.size + 2, 9, none⟩) (by simp) (.slice av m.vec.length cv)).setCell (p := ⟨w.heap.size + 2, 10, none⟩) (by simp) (.string (ByteArray.mk m.body.toArray)))
    have HA6 := Go.Lib.hid A6; have HA7 := Go.Lib.hid A7; have HB8 := Go.Lib.hid B8
    clear A6 A7 B8 B7 a7
    have q0 := a6.cell 0 _ rfl
    have g0 := a6.free 0
    have q1 := a6.cell 1 _ rfl
    have g1 := a6.free 1
    have q2 := a6.cell 2 _ rfl
    have g2 := a6.free 2
    have q3 := a6.cell 3 _ rfl
    have g3 := a6.free 3
    have q4 := a6.cell 4 _ rfl
    have g4 := a6.free 4
    have q5 := a6.cell 5 _ rfl
    have g5 := a6.free 5
    have q6 := a6.cell 6 _ rfl
    have g6 := a6.free 6
    have q7 := a6.cell 7 _ rfl
    have g7 := a6.free 7
    have q8 := a6.cell 8 _ rfl
    have g8 := a6.free 8
    have q9 := a6.cell 9 _ rfl
    have g9 := a6.free 9
    have q10 := a6.cell 10 _ rfl
    have g10 := a6.free 10
    have A4 := (((((((((((a4.other (g' := w.heap.size + 2) (by omega) 0 (.int .i64 m.kind)).other (g' := w.heap.size + 2) (by omega) 1 (.int .u64 (m.ballot : Int))).other (g' := w.heap.size + 2) (by omega) 2 (.int .u64 (m.slot : Int))).other (g' := w.heap.size + 2) (by omega) 3 (.int .i64 m.shard)).other (g' := w.heap.size + 2) (by omega) 4 (.int .i64 m.seg)).other (g' := w.heap.size + 2) (by omega) 5 (.int .u64 (m.client : Int))).other (g' := w.heap.size + 2) (by omega) 6 (.int .u64 (m.seq : Int))).other (g' := w.heap.size + 2) (by omega) 7 (.int .u64 (m.pos : Int))).other (g' := w.heap.size + 2) (by omega) 8 (.int .i64 m.code)).other (g' := w.heap.size + 2) (by omega) 9 (.slice av m.vec.length cv)).other (g' := w.heap.size + 2) (by omega) 10 (.string (ByteArray.mk m.body.toArray)))
    have HA4 := Go.Lib.hid A4
    clear A4
    refine NB.t_rs 1 2 rfl rfl (by kernel_rfl) (by kernel_rfl) (by kernel_rfl) (by kernel_rfl) (by kernel_rfl) (by intro _ _ h; cases h) (by intro _ _ h; cases h) (by go_simp) _ (by go_simp) (NB.run_op_load_agg (off := 0) (m := 2) rfl rfl Tryd.underlying74 rfl _ _ _ a4 (by kernel_rfl) (Nat.le_refl _) _ rfl (Below.refl _ w7)) (fun Q' hK => ?_)
    go_wp2
    refine hK _ _ (NB.run_op_load_agg (off := 0) (m := 2) rfl rfl Tryd.underlying74 rfl _ _ _ HA4.out (by kernel_rfl) (Nat.le_refl _) _ rfl (Below.refl _ _)) ?_
    clear hK Q' HA4 q0 g0 q1 g1 q2 g2 q3 g3 q4 g4 q5 g5 q6 g6 q7 g7 q8 g8 q9 g9 q10 g10
    generalize (((((((((((w7.setCell ⟨w.heap.size + 2, 0, none⟩ (.int .i64 m.kind)).setCell ⟨w.heap.size + 2, 1, none⟩ (.int .u64 (m.ballot : Int))).setCell ⟨w.heap.size + 2, 2, none⟩ (.int .u64 (m.slot : Int))).setCell ⟨w.heap.size + 2, 3, none⟩ (.int .i64 m.shard)).setCell ⟨w.heap.size + 2, 4, none⟩ (.int .i64 m.seg)).setCell ⟨w.heap.size + 2, 5, none⟩ (.int .u64 (m.client : Int))).setCell ⟨w.heap.size + 2, 6, none⟩ (.int .u64 (m.seq : Int))).setCell ⟨w.heap.size + 2, 7, none⟩ (.int .u64 (m.pos : Int))).setCell ⟨w.heap.size + 2, 8, none⟩ (.int .i64 m.code)).setCell ⟨w.heap.size + 2, 9, none⟩ (.slice av m.vec.length cv)).setCell ⟨w.heap.size + 2, 10, none⟩ (.string (ByteArray.mk m.body.toArray))) = w8 at *
    have A7 := HA7.out
    have F6 := HA6.out.other (g' := w.heap.size + 3) (by omega) 0 (.string (ByteArray.mk R'.b.toArray))
    have F6 := F6.other (g' := w.heap.size + 3) (by omega) 1 (.int .i64 R'.e)
    have F7 := (A7.set 0 (.string (ByteArray.mk R'.b.toArray))).set 1 (.int .i64 R'.e)
    simp only [List.set] at F7
    have B9 := (HB8.out.setCell (p := ⟨w.heap.size + 3, 0, none⟩) (by simp) (.string (ByteArray.mk R'.b.toArray))).setCell (p := ⟨w.heap.size + 3, 1, none⟩) (by simp) (.int .i64 R'.e)
    have HF6 := Go.Lib.hid F6; have HF7 := Go.Lib.hid F7; have HB9 := Go.Lib.hid B9
    clear F6 F7 B9
    obtain ⟨q0, q1, g0, g1⟩ := NB.rw2 A7
    refine NB.t_w 3 rfl (by kernel_rfl) (by kernel_rfl) rfl (fun Q' hK => ?_)
    go_wp2
    clear q0 q1 g0 g1 A7 HA6 HA7 HB8
    generalize ((w8.setCell ⟨w.heap.size + 3, 0, none⟩ (.string (ByteArray.mk R'.b.toArray))).setCell ⟨w.heap.size + 3, 1, none⟩ (.int .i64 R'.e)) = w9 at *
    refine NB.t_end (by kernel_rfl) ?_
    go_wp2
    have F6 := HF6.out; have F7 := HF7.out
    have q0 := F6.cell 0 _ rfl
    have q1 := F6.cell 1 _ rfl
    have q2 := F6.cell 2 _ rfl
    have q3 := F6.cell 3 _ rfl
    have q4 := F6.cell 4 _ rfl
    have q5 := F6.cell 5 _ rfl
    have q6 := F6.cell 6 _ rfl
    have q7 := F6.cell 7 _ rfl
    have q8 := F6.cell 8 _ rfl
    have q9 := F6.cell 9 _ rfl
    have q10 := F6.cell 10 _ rfl
    have c0 := F7.cell 0 _ rfl
    have c1 := F7.cell 1 _ rfl
    have hlt := F7.lt
    have hlt6 := F6.lt
    refine bodyPost_ret (v := .tuple #[.agg #[.int .i64 m.kind, .int .u64 (m.ballot : Int), .int .u64 (m.slot : Int), .int .i64 m.shard, .int .i64 m.seg, .int .u64 (m.client : Int), .int .u64 (m.seq : Int), .int .u64 (m.pos : Int), .int .i64 m.code, .slice av m.vec.length cv, .string (ByteArray.mk m.body.toArray)], .agg #[.string (ByteArray.mk R'.b.toArray), .int .i64 R'.e]]) (by simp [results, Tryd.results30, go_sem, q0, q1, q2, q3, q4, q5, q6, q7, q8, q9, q10, c0, c1, hlt, hlt6]) rfl ?_
    exact take_mk R' (show (readF 7 m r).1 = R' from (show (Rr.upto 11 256 r).1 = R' by rw [upto_er HRX.out 11 256 HE.out])) (by decide) m rfl HR.out HB9.out (fun h => absurd h HE.out)
  have heb : (R'.e != 0) = false := by simpa using he
  have HE := Go.Lib.hid he
  clear he
  by_cases hxb : 256 ≤ x
  · have hxi : (256 : Int) ≤ (x : Int) := by omega
    have HXB := Go.Lib.hid hxb
    clear hxb
    have T7 := HT6.out.setR 1 (.int .i64 11)
    have HT7 := Go.Lib.hid T7
    clear HT6 T7
    go_wp2_with fail
    have T := HT7.out
    clear HT7 T5 p0 p1 n0 n1
    simp only [List.set] at T
    generalize ((((w5.setCell ⟨w.heap.size + 1, 0, none⟩ (.string (ByteArray.mk R'.b.toArray))).setCell ⟨w.heap.size + 1, 1, none⟩ (.int .i64 R'.e))).setCell ⟨w.heap.size + 1, 1, none⟩ (.int .i64 11)) = w6 at *
    refine NB.wp_region_t [2, 3] (by kernel_rfl) ?_
    have T9 := T.below (dB w6)
    clear T
    generalize w6.drew = w7 at *
    have a3 := T9.p3; have a4 := T9.p4; have a6 := T9.p6; have a7 := T9.p7; have B7 := T9.bel
    clear T9
    refine NB.t_r 0 [2, 3] rfl (by kernel_rfl) (by kernel_rfl) (by go_simp) _ (fun w' hw' => NB.run_op_load_agg (off := 0) (m := 11) rfl rfl Tryd.underlying36 rfl _ _ _ a3 (by kernel_rfl) (Nat.le_refl _) _ rfl hw') (fun K hK => ?_); go_simp; refine hK _ ?_; clear hK K
    have A6 := (((((((((((a6.set 0 (.int .i64 m.kind)).set 1 (.int .u64 (m.ballot : Int))).set 2 (.int .u64 (m.slot : Int))).set 3 (.int .i64 m.shard)).set 4 (.int .i64 m.seg)).set 5 (.int .u64 (m.client : Int))).set 6 (.int .u64 (m.seq : Int))).set 7 (.int .u64 (m.pos : Int))).set 8 (.int .i64 m.code)).set 9 (.slice av m.vec.length cv)).set 10 (.string (ByteArray.mk m.body.toArray)))
    simp only [List.set] at A6
    have A7 := (((((((((((a7.other (g' := w.heap.size + 2) (by omega) 0 (.int .i64 m.kind)).other (g' := w.heap.size + 2) (by omega) 1 (.int .u64 (m.ballot : Int))).other (g' := w.heap.size + 2) (by omega) 2 (.int .u64 (m.slot : Int))).other (g' := w.heap.size + 2) (by omega) 3 (.int .i64 m.shard)).other (g' := w.heap.size + 2) (by omega) 4 (.int .i64 m.seg)).other (g' := w.heap.size + 2) (by omega) 5 (.int .u64 (m.client : Int))).other (g' := w.heap.size + 2) (by omega) 6 (.int .u64 (m.seq : Int))).other (g' := w.heap.size + 2) (by omega) 7 (.int .u64 (m.pos : Int))).other (g' := w.heap.size + 2) (by omega) 8 (.int .i64 m.code)).other (g' := w.heap.size + 2) (by omega) 9 (.slice av m.vec.length cv)).other (g' := w.heap.size + 2) (by omega) 10 (.string (ByteArray.mk m.body.toArray)))
    have B8 : Below w.heap.size w (((((((((((w7.setCell ⟨w.heap.size + 2, 0, none⟩ (.int .i64 m.kind)).setCell ⟨w.heap.size + 2, 1, none⟩ (.int .u64 (m.ballot : Int))).setCell ⟨w.heap.size + 2, 2, none⟩ (.int .u64 (m.slot : Int))).setCell ⟨w.heap.size + 2, 3, none⟩ (.int .i64 m.shard)).setCell ⟨w.heap.size + 2, 4, none⟩ (.int .i64 m.seg)).setCell ⟨w.heap.size + 2, 5, none⟩ (.int .u64 (m.client : Int))).setCell ⟨w.heap.size + 2, 6, none⟩ (.int .u64 (m.seq : Int))).setCell ⟨w.heap.size + 2, 7, none⟩ (.int .u64 (m.pos : Int))).setCell ⟨w.heap.size + 2, 8, none⟩ (.int .i64 m.code)).setCell ⟨w.heap.size + 2, 9, none⟩ (.slice av m.vec.length cv)).setCell ⟨w.heap.size + 2, 10, none⟩ (.string (ByteArray.mk m.body.toArray))) := (((((((((((B7.setCell (p := ⟨w.heap.size + 2, 0, none⟩) (by simp) (.int .i64 m.kind)).setCell (p := ⟨w.heap.size + 2, 1, none⟩) (by simp) (.int .u64 (m.ballot : Int))).setCell (p := ⟨w.heap.size + 2, 2, none⟩) (by simp) (.int .u64 (m.slot : Int))).setCell (p := ⟨w.heap.size + 2, 3, none⟩) (by simp) (.int .i64 m.shard)).setCell (p := ⟨w.heap.size + 2, 4, none⟩) (by simp) (.int .i64 m.seg)).setCell (p := ⟨w.heap.size + 2, 5, none⟩) (by simp) (.int .u64 (m.client : Int))).setCell (p := ⟨w.heap.size + 2, 6, none⟩) (by simp) (.int .u64 (m.seq : Int))).setCell (p := ⟨w.heap.size + 2, 7, none⟩) (by simp) (.int .u64 (m.pos : Int))).setCell (p := ⟨w.heap.size + 2, 8, none⟩) (by simp) (.int .i64 m.code)).setCell (p := ⟨w.heap.size + 2, 9, none⟩) (by simp) (.slice av m.vec.length cv)).setCell (p := ⟨w.heap.size + 2, 10, none⟩) (by simp) (.string (ByteArray.mk m.body.toArray)))
    have HA6 := Go.Lib.hid A6; have HA7 := Go.Lib.hid A7; have HB8 := Go.Lib.hid B8
    clear A6 A7 B8 B7 a7
    have q0 := a6.cell 0 _ rfl
    have g0 := a6.free 0
    have q1 := a6.cell 1 _ rfl
    have g1 := a6.free 1
    have q2 := a6.cell 2 _ rfl
    have g2 := a6.free 2
    have q3 := a6.cell 3 _ rfl
    have g3 := a6.free 3
    have q4 := a6.cell 4 _ rfl
    have g4 := a6.free 4
    have q5 := a6.cell 5 _ rfl
    have g5 := a6.free 5
    have q6 := a6.cell 6 _ rfl
    have g6 := a6.free 6
    have q7 := a6.cell 7 _ rfl
    have g7 := a6.free 7
    have q8 := a6.cell 8 _ rfl
    have g8 := a6.free 8
    have q9 := a6.cell 9 _ rfl
    have g9 := a6.free 9
    have q10 := a6.cell 10 _ rfl
    have g10 := a6.free 10
    have A4 := (((((((((((a4.other (g' := w.heap.size + 2) (by omega) 0 (.int .i64 m.kind)).other (g' := w.heap.size + 2) (by omega) 1 (.int .u64 (m.ballot : Int))).other (g' := w.heap.size + 2) (by omega) 2 (.int .u64 (m.slot : Int))).other (g' := w.heap.size + 2) (by omega) 3 (.int .i64 m.shard)).other (g' := w.heap.size + 2) (by omega) 4 (.int .i64 m.seg)).other (g' := w.heap.size + 2) (by omega) 5 (.int .u64 (m.client : Int))).other (g' := w.heap.size + 2) (by omega) 6 (.int .u64 (m.seq : Int))).other (g' := w.heap.size + 2) (by omega) 7 (.int .u64 (m.pos : Int))).other (g' := w.heap.size + 2) (by omega) 8 (.int .i64 m.code)).other (g' := w.heap.size + 2) (by omega) 9 (.slice av m.vec.length cv)).other (g' := w.heap.size + 2) (by omega) 10 (.string (ByteArray.mk m.body.toArray)))
    have HA4 := Go.Lib.hid A4
    clear A4
    refine NB.t_rs 1 2 rfl rfl (by kernel_rfl) (by kernel_rfl) (by kernel_rfl) (by kernel_rfl) (by kernel_rfl) (by intro _ _ h; cases h) (by intro _ _ h; cases h) (by go_simp) _ (by go_simp) (NB.run_op_load_agg (off := 0) (m := 2) rfl rfl Tryd.underlying74 rfl _ _ _ a4 (by kernel_rfl) (Nat.le_refl _) _ rfl (Below.refl _ w7)) (fun Q' hK => ?_)
    go_wp2
    refine hK _ _ (NB.run_op_load_agg (off := 0) (m := 2) rfl rfl Tryd.underlying74 rfl _ _ _ HA4.out (by kernel_rfl) (Nat.le_refl _) _ rfl (Below.refl _ _)) ?_
    clear hK Q' HA4 q0 g0 q1 g1 q2 g2 q3 g3 q4 g4 q5 g5 q6 g6 q7 g7 q8 g8 q9 g9 q10 g10
    generalize (((((((((((w7.setCell ⟨w.heap.size + 2, 0, none⟩ (.int .i64 m.kind)).setCell ⟨w.heap.size + 2, 1, none⟩ (.int .u64 (m.ballot : Int))).setCell ⟨w.heap.size + 2, 2, none⟩ (.int .u64 (m.slot : Int))).setCell ⟨w.heap.size + 2, 3, none⟩ (.int .i64 m.shard)).setCell ⟨w.heap.size + 2, 4, none⟩ (.int .i64 m.seg)).setCell ⟨w.heap.size + 2, 5, none⟩ (.int .u64 (m.client : Int))).setCell ⟨w.heap.size + 2, 6, none⟩ (.int .u64 (m.seq : Int))).setCell ⟨w.heap.size + 2, 7, none⟩ (.int .u64 (m.pos : Int))).setCell ⟨w.heap.size + 2, 8, none⟩ (.int .i64 m.code)).setCell ⟨w.heap.size + 2, 9, none⟩ (.slice av m.vec.length cv)).setCell ⟨w.heap.size + 2, 10, none⟩ (.string (ByteArray.mk m.body.toArray))) = w8 at *
    have A7 := HA7.out
    have F6 := HA6.out.other (g' := w.heap.size + 3) (by omega) 0 (.string (ByteArray.mk R'.b.toArray))
    have F6 := F6.other (g' := w.heap.size + 3) (by omega) 1 (.int .i64 11)
    have F7 := (A7.set 0 (.string (ByteArray.mk R'.b.toArray))).set 1 (.int .i64 11)
    simp only [List.set] at F7
    have B9 := (HB8.out.setCell (p := ⟨w.heap.size + 3, 0, none⟩) (by simp) (.string (ByteArray.mk R'.b.toArray))).setCell (p := ⟨w.heap.size + 3, 1, none⟩) (by simp) (.int .i64 11)
    have HF6 := Go.Lib.hid F6; have HF7 := Go.Lib.hid F7; have HB9 := Go.Lib.hid B9
    clear F6 F7 B9
    obtain ⟨q0, q1, g0, g1⟩ := NB.rw2 A7
    refine NB.t_w 3 rfl (by kernel_rfl) (by kernel_rfl) rfl (fun Q' hK => ?_)
    go_wp2
    clear q0 q1 g0 g1 A7 HA6 HA7 HB8
    generalize ((w8.setCell ⟨w.heap.size + 3, 0, none⟩ (.string (ByteArray.mk R'.b.toArray))).setCell ⟨w.heap.size + 3, 1, none⟩ (.int .i64 11)) = w9 at *
    refine NB.t_end (by kernel_rfl) ?_
    go_wp2
    have F6 := HF6.out; have F7 := HF7.out
    have q0 := F6.cell 0 _ rfl
    have q1 := F6.cell 1 _ rfl
    have q2 := F6.cell 2 _ rfl
    have q3 := F6.cell 3 _ rfl
    have q4 := F6.cell 4 _ rfl
    have q5 := F6.cell 5 _ rfl
    have q6 := F6.cell 6 _ rfl
    have q7 := F6.cell 7 _ rfl
    have q8 := F6.cell 8 _ rfl
    have q9 := F6.cell 9 _ rfl
    have q10 := F6.cell 10 _ rfl
    have c0 := F7.cell 0 _ rfl
    have c1 := F7.cell 1 _ rfl
    have hlt := F7.lt
    have hlt6 := F6.lt
    refine bodyPost_ret (v := .tuple #[.agg #[.int .i64 m.kind, .int .u64 (m.ballot : Int), .int .u64 (m.slot : Int), .int .i64 m.shard, .int .i64 m.seg, .int .u64 (m.client : Int), .int .u64 (m.seq : Int), .int .u64 (m.pos : Int), .int .i64 m.code, .slice av m.vec.length cv, .string (ByteArray.mk m.body.toArray)], .agg #[.string (ByteArray.mk R'.b.toArray), .int .i64 11]]) (by simp [results, Tryd.results30, go_sem, q0, q1, q2, q3, q4, q5, q6, q7, q8, q9, q10, c0, c1, hlt, hlt6]) rfl ?_
    exact take_mk ⟨R'.b, 11⟩ (show (readF 7 m r).1 = ⟨R'.b, 11⟩ from (show (Rr.upto 11 256 r).1 = ⟨R'.b, 11⟩ by rw [upto_big HRX.out 11 256 HE.out HXB.out])) (by decide) m rfl HR.out HB9.out (fun h => absurd h (show ¬ (11 : Int) = 0 by decide))
  have hxi : ¬ (256 : Int) ≤ (x : Int) := by omega
  have hwx : IntKind.i64.wrap (x : Int) = (x : Int) := IntWalk.i64_in _ (by omega)
  have hwx2 : wrap64 (x : Int) = (x : Int) := by unfold wrap64; omega
  have hxl : x < 256 := by omega
  have HXB := Go.Lib.hid hxl
  clear hxb hxl
  have T7 := HT6.out.setM 8 (.int .i64 (x : Int))
  have d := T5.p3.cell 8 _ rfl
  have fd := T5.p3.free 8
  have HT7 := Go.Lib.hid T7
  clear HT6 T7
  go_wp2_with fail
  have T := HT7.out
  clear HT7 T5 p0 p1 n0 n1 d fd
  generalize ((w5.setCell ⟨w.heap.size + 1, 0, none⟩ (.string (ByteArray.mk R'.b.toArray))).setCell ⟨w.heap.size + 1, 1, none⟩ (.int .i64 R'.e)).setCell ⟨w.heap.size, 8, none⟩ (.int .i64 (x : Int)) = w6 at *
  simp only [List.set] at T
  refine NB.wp_region_t [2, 3] (by kernel_rfl) ?_
  have T9 := T.below (dB w6)
  clear T
  generalize w6.drew = w7 at *
  have a3 := T9.p3; have a4 := T9.p4; have a6 := T9.p6; have a7 := T9.p7; have B7 := T9.bel
  clear T9
  refine NB.t_r 0 [2, 3] rfl (by kernel_rfl) (by kernel_rfl) (by go_simp) _ (fun w' hw' => NB.run_op_load_agg (off := 0) (m := 11) rfl rfl Tryd.underlying36 rfl _ _ _ a3 (by kernel_rfl) (Nat.le_refl _) _ rfl hw') (fun K hK => ?_); go_simp; refine hK _ ?_; clear hK K
  have A6 := (((((((((((a6.set 0 (.int .i64 m.kind)).set 1 (.int .u64 (m.ballot : Int))).set 2 (.int .u64 (m.slot : Int))).set 3 (.int .i64 m.shard)).set 4 (.int .i64 m.seg)).set 5 (.int .u64 (m.client : Int))).set 6 (.int .u64 (m.seq : Int))).set 7 (.int .u64 (m.pos : Int))).set 8 (.int .i64 (x : Int))).set 9 (.slice av m.vec.length cv)).set 10 (.string (ByteArray.mk m.body.toArray)))
  simp only [List.set] at A6
  have A7 := (((((((((((a7.other (g' := w.heap.size + 2) (by omega) 0 (.int .i64 m.kind)).other (g' := w.heap.size + 2) (by omega) 1 (.int .u64 (m.ballot : Int))).other (g' := w.heap.size + 2) (by omega) 2 (.int .u64 (m.slot : Int))).other (g' := w.heap.size + 2) (by omega) 3 (.int .i64 m.shard)).other (g' := w.heap.size + 2) (by omega) 4 (.int .i64 m.seg)).other (g' := w.heap.size + 2) (by omega) 5 (.int .u64 (m.client : Int))).other (g' := w.heap.size + 2) (by omega) 6 (.int .u64 (m.seq : Int))).other (g' := w.heap.size + 2) (by omega) 7 (.int .u64 (m.pos : Int))).other (g' := w.heap.size + 2) (by omega) 8 (.int .i64 (x : Int))).other (g' := w.heap.size + 2) (by omega) 9 (.slice av m.vec.length cv)).other (g' := w.heap.size + 2) (by omega) 10 (.string (ByteArray.mk m.body.toArray)))
  have B8 : Below w.heap.size w (((((((((((w7.setCell ⟨w.heap.size + 2, 0, none⟩ (.int .i64 m.kind)).setCell ⟨w.heap.size + 2, 1, none⟩ (.int .u64 (m.ballot : Int))).setCell ⟨w.heap.size + 2, 2, none⟩ (.int .u64 (m.slot : Int))).setCell ⟨w.heap.size + 2, 3, none⟩ (.int .i64 m.shard)).setCell ⟨w.heap.size + 2, 4, none⟩ (.int .i64 m.seg)).setCell ⟨w.heap.size + 2, 5, none⟩ (.int .u64 (m.client : Int))).setCell ⟨w.heap.size + 2, 6, none⟩ (.int .u64 (m.seq : Int))).setCell ⟨w.heap.size + 2, 7, none⟩ (.int .u64 (m.pos : Int))).setCell ⟨w.heap.size + 2, 8, none⟩ (.int .i64 (x : Int))).setCell ⟨w.heap.size + 2, 9, none⟩ (.slice av m.vec.length cv)).setCell ⟨w.heap.size + 2, 10, none⟩ (.string (ByteArray.mk m.body.toArray))) := (((((((((((B7.setCell (p := ⟨w.heap.size + 2, 0, none⟩) (by simp) (.int .i64 m.kind)).setCell (p := ⟨w.heap.size + 2, 1, none⟩) (by simp) (.int .u64 (m.ballot : Int))).setCell (p := ⟨w.heap.size + 2, 2, none⟩) (by simp) (.int .u64 (m.slot : Int))).setCell (p := ⟨w.heap.size + 2, 3, none⟩) (by simp) (.int .i64 m.shard)).setCell (p := ⟨w.heap.size + 2, 4, none⟩) (by simp) (.int .i64 m.seg)).setCell (p := ⟨w.heap.size + 2, 5, none⟩) (by simp) (.int .u64 (m.client : Int))).setCell (p := ⟨w.heap.size + 2, 6, none⟩) (by simp) (.int .u64 (m.seq : Int))).setCell (p := ⟨w.heap.size + 2, 7, none⟩) (by simp) (.int .u64 (m.pos : Int))).setCell (p := ⟨w.heap.size + 2, 8, none⟩) (by simp) (.int .i64 (x : Int))).setCell (p := ⟨w.heap.size + 2, 9, none⟩) (by simp) (.slice av m.vec.length cv)).setCell (p := ⟨w.heap.size + 2, 10, none⟩) (by simp) (.string (ByteArray.mk m.body.toArray)))
  have HA6 := Go.Lib.hid A6; have HA7 := Go.Lib.hid A7; have HB8 := Go.Lib.hid B8
  clear A6 A7 B8 B7 a7
  have q0 := a6.cell 0 _ rfl
  have g0 := a6.free 0
  have q1 := a6.cell 1 _ rfl
  have g1 := a6.free 1
  have q2 := a6.cell 2 _ rfl
  have g2 := a6.free 2
  have q3 := a6.cell 3 _ rfl
  have g3 := a6.free 3
  have q4 := a6.cell 4 _ rfl
  have g4 := a6.free 4
  have q5 := a6.cell 5 _ rfl
  have g5 := a6.free 5
  have q6 := a6.cell 6 _ rfl
  have g6 := a6.free 6
  have q7 := a6.cell 7 _ rfl
  have g7 := a6.free 7
  have q8 := a6.cell 8 _ rfl
  have g8 := a6.free 8
  have q9 := a6.cell 9 _ rfl
  have g9 := a6.free 9
  have q10 := a6.cell 10 _ rfl
  have g10 := a6.free 10
  have A4 := (((((((((((a4.other (g' := w.heap.size + 2) (by omega) 0 (.int .i64 m.kind)).other (g' := w.heap.size + 2) (by omega) 1 (.int .u64 (m.ballot : Int))).other (g' := w.heap.size + 2) (by omega) 2 (.int .u64 (m.slot : Int))).other (g' := w.heap.size + 2) (by omega) 3 (.int .i64 m.shard)).other (g' := w.heap.size + 2) (by omega) 4 (.int .i64 m.seg)).other (g' := w.heap.size + 2) (by omega) 5 (.int .u64 (m.client : Int))).other (g' := w.heap.size + 2) (by omega) 6 (.int .u64 (m.seq : Int))).other (g' := w.heap.size + 2) (by omega) 7 (.int .u64 (m.pos : Int))).other (g' := w.heap.size + 2) (by omega) 8 (.int .i64 (x : Int))).other (g' := w.heap.size + 2) (by omega) 9 (.slice av m.vec.length cv)).other (g' := w.heap.size + 2) (by omega) 10 (.string (ByteArray.mk m.body.toArray)))
  have HA4 := Go.Lib.hid A4
  clear A4
  refine NB.t_rs 1 2 rfl rfl (by kernel_rfl) (by kernel_rfl) (by kernel_rfl) (by kernel_rfl) (by kernel_rfl) (by intro _ _ h; cases h) (by intro _ _ h; cases h) (by go_simp) _ (by go_simp) (NB.run_op_load_agg (off := 0) (m := 2) rfl rfl Tryd.underlying74 rfl _ _ _ a4 (by kernel_rfl) (Nat.le_refl _) _ rfl (Below.refl _ w7)) (fun Q' hK => ?_)
  go_wp2
  refine hK _ _ (NB.run_op_load_agg (off := 0) (m := 2) rfl rfl Tryd.underlying74 rfl _ _ _ HA4.out (by kernel_rfl) (Nat.le_refl _) _ rfl (Below.refl _ _)) ?_
  clear hK Q' HA4 q0 g0 q1 g1 q2 g2 q3 g3 q4 g4 q5 g5 q6 g6 q7 g7 q8 g8 q9 g9 q10 g10
  generalize (((((((((((w7.setCell ⟨w.heap.size + 2, 0, none⟩ (.int .i64 m.kind)).setCell ⟨w.heap.size + 2, 1, none⟩ (.int .u64 (m.ballot : Int))).setCell ⟨w.heap.size + 2, 2, none⟩ (.int .u64 (m.slot : Int))).setCell ⟨w.heap.size + 2, 3, none⟩ (.int .i64 m.shard)).setCell ⟨w.heap.size + 2, 4, none⟩ (.int .i64 m.seg)).setCell ⟨w.heap.size + 2, 5, none⟩ (.int .u64 (m.client : Int))).setCell ⟨w.heap.size + 2, 6, none⟩ (.int .u64 (m.seq : Int))).setCell ⟨w.heap.size + 2, 7, none⟩ (.int .u64 (m.pos : Int))).setCell ⟨w.heap.size + 2, 8, none⟩ (.int .i64 (x : Int))).setCell ⟨w.heap.size + 2, 9, none⟩ (.slice av m.vec.length cv)).setCell ⟨w.heap.size + 2, 10, none⟩ (.string (ByteArray.mk m.body.toArray))) = w8 at *
  have A7 := HA7.out
  have F6 := HA6.out.other (g' := w.heap.size + 3) (by omega) 0 (.string (ByteArray.mk R'.b.toArray))
  have F6 := F6.other (g' := w.heap.size + 3) (by omega) 1 (.int .i64 R'.e)
  have F7 := (A7.set 0 (.string (ByteArray.mk R'.b.toArray))).set 1 (.int .i64 R'.e)
  simp only [List.set] at F7
  have B9 := (HB8.out.setCell (p := ⟨w.heap.size + 3, 0, none⟩) (by simp) (.string (ByteArray.mk R'.b.toArray))).setCell (p := ⟨w.heap.size + 3, 1, none⟩) (by simp) (.int .i64 R'.e)
  have HF6 := Go.Lib.hid F6; have HF7 := Go.Lib.hid F7; have HB9 := Go.Lib.hid B9
  clear F6 F7 B9
  obtain ⟨q0, q1, g0, g1⟩ := NB.rw2 A7
  refine NB.t_w 3 rfl (by kernel_rfl) (by kernel_rfl) rfl (fun Q' hK => ?_)
  go_wp2
  clear q0 q1 g0 g1 A7 HA6 HA7 HB8
  generalize ((w8.setCell ⟨w.heap.size + 3, 0, none⟩ (.string (ByteArray.mk R'.b.toArray))).setCell ⟨w.heap.size + 3, 1, none⟩ (.int .i64 R'.e)) = w9 at *
  refine NB.t_end (by kernel_rfl) ?_
  go_wp2
  have F6 := HF6.out; have F7 := HF7.out
  have q0 := F6.cell 0 _ rfl
  have q1 := F6.cell 1 _ rfl
  have q2 := F6.cell 2 _ rfl
  have q3 := F6.cell 3 _ rfl
  have q4 := F6.cell 4 _ rfl
  have q5 := F6.cell 5 _ rfl
  have q6 := F6.cell 6 _ rfl
  have q7 := F6.cell 7 _ rfl
  have q8 := F6.cell 8 _ rfl
  have q9 := F6.cell 9 _ rfl
  have q10 := F6.cell 10 _ rfl
  have c0 := F7.cell 0 _ rfl
  have c1 := F7.cell 1 _ rfl
  have hlt := F7.lt
  have hlt6 := F6.lt
  refine bodyPost_ret (v := .tuple #[.agg #[.int .i64 m.kind, .int .u64 (m.ballot : Int), .int .u64 (m.slot : Int), .int .i64 m.shard, .int .i64 m.seg, .int .u64 (m.client : Int), .int .u64 (m.seq : Int), .int .u64 (m.pos : Int), .int .i64 (x : Int), .slice av m.vec.length cv, .string (ByteArray.mk m.body.toArray)], .agg #[.string (ByteArray.mk R'.b.toArray), .int .i64 R'.e]]) (by simp [results, Tryd.results30, go_sem, q0, q1, q2, q3, q4, q5, q6, q7, q8, q9, q10, c0, c1, hlt, hlt6]) rfl ?_
  exact take_mk R' (show (readF 7 m r).1 = R' from (show (Rr.upto 11 256 r).1 = R' by rw [upto_ok HRX.out 11 256 HXB.out])) (by decide) { m with code := (x : Int) } rfl HR.out HB9.out (fun _ => by show _ = { m with code := ((Rr.upto 11 256 r).2 : Int) }; rw [upto_ok HRX.out 11 256 HXB.out])

set_option maxRecDepth 100000 in
set_option maxHeartbeats 8000000 in
theorem take_9 (w : World) (m : Mm) (av : Option Addr) (cv : Nat) (r : Rr) (hR : RdU w av m.vec.length cv m.vec) (hl : r.b.length ≤ 100000000) :
    Calls Tryd.prog 30 #[.agg #[.int .i64 m.kind, .int .u64 (m.ballot : Int), .int .u64 (m.slot : Int), .int .i64 m.shard, .int .i64 m.seg, .int .u64 (m.client : Int), .int .u64 (m.seq : Int), .int .u64 (m.pos : Int), .int .i64 m.code, .slice av m.vec.length cv, .string (ByteArray.mk m.body.toArray)], .agg #[.string (ByteArray.mk r.b.toArray), .int .i64 r.e], .int .u8 120] w (TakeE w 9 m av cv r) := by
  have ctr := fun w => refRB_any w r 32768 (by omega) hl
  unfold refR RefRS at ctr
  obtain ⟨R', s, hrx⟩ : ∃ R' s, r.bytes 32768 = (R', s) := ⟨_, _, rfl⟩
  rw [hrx] at ctr
  simp only at ctr
  have HC := Go.Lib.hid ctr; have HRX := Go.Lib.hid hrx
  clear ctr hrx
  have T0 := TK.start w (.int .i64 m.kind) (.int .u64 (m.ballot : Int)) (.int .u64 (m.slot : Int)) (.int .i64 m.shard) (.int .i64 m.seg) (.int .u64 (m.client : Int)) (.int .u64 (m.seq : Int)) (.int .u64 (m.pos : Int)) (.int .i64 m.code) (.slice av m.vec.length cv) (.string (ByteArray.mk m.body.toArray)) (.string (ByteArray.mk r.b.toArray)) (.int .i64 r.e)
  have HR := Go.Lib.hid hR
  clear hR
  go_enter Tryd.func30, Tryd.ntmps30
  go_wp2_with fail
  generalize ((((w.alloc (.cells #[.int .i64 m.kind, .int .u64 (m.ballot : Int), .int .u64 (m.slot : Int), .int .i64 m.shard, .int .i64 m.seg, .int .u64 (m.client : Int), .int .u64 (m.seq : Int), .int .u64 (m.pos : Int), .int .i64 m.code, .slice av m.vec.length cv, .string (ByteArray.mk m.body.toArray)] 36)).alloc (.cells #[.string (ByteArray.mk r.b.toArray), .int .i64 r.e] 74)).alloc (.cells #[.int .i64 0, .int .u64 0, .int .u64 0, .int .i64 0, .int .i64 0, .int .u64 0, .int .u64 0, .int .u64 0, .int .i64 0, .slice none 0 0, .string (ByteArray.mk #[])] 36)).alloc (.cells #[.string (ByteArray.mk #[]), .int .i64 0] 74)) = w4 at *
  refine (HC.out _).mono ?_
  rintro e w45 ⟨rfl, hb45⟩
  have T0 := T0.below hb45
  clear hb45
  go_wp2_with fail
  refine (keep_any _ R' s).mono ?_
  rintro e w5 ⟨rfl, hb5⟩
  have T5 := T0.below hb5
  clear T0 hb5
  obtain ⟨p0, p1, n0, n1⟩ := NB.rw2 T5.p4
  have T6 := (T5.setR 0 (.string (ByteArray.mk R'.b.toArray))).setR 1 (.int .i64 R'.e)
  simp only [List.set] at T6
  have HT6 := Go.Lib.hid T6
  clear T6 HC
  have T7 := HT6.out.setM 10 (.string (ByteArray.mk s.toArray))
  have d := T5.p3.cell 10 _ rfl
  have fd := T5.p3.free 10
  have HT7 := Go.Lib.hid T7
  clear HT6 T7
  go_wp2_with fail
  have T := HT7.out
  clear HT7 T5 p0 p1 n0 n1 d fd
  generalize ((w5.setCell ⟨w.heap.size + 1, 0, none⟩ (.string (ByteArray.mk R'.b.toArray))).setCell ⟨w.heap.size + 1, 1, none⟩ (.int .i64 R'.e)).setCell ⟨w.heap.size, 10, none⟩ (.string (ByteArray.mk s.toArray)) = w6 at *
  simp only [List.set] at T
  refine NB.wp_region_t [2, 3] (by kernel_rfl) ?_
  have T9 := T.below (dB w6)
  clear T
  generalize w6.drew = w7 at *
  have a3 := T9.p3; have a4 := T9.p4; have a6 := T9.p6; have a7 := T9.p7; have B7 := T9.bel
  clear T9
  refine NB.t_r 0 [2, 3] rfl (by kernel_rfl) (by kernel_rfl) (by go_simp) _ (fun w' hw' => NB.run_op_load_agg (off := 0) (m := 11) rfl rfl Tryd.underlying36 rfl _ _ _ a3 (by kernel_rfl) (Nat.le_refl _) _ rfl hw') (fun K hK => ?_); go_simp; refine hK _ ?_; clear hK K
  have A6 := (((((((((((a6.set 0 (.int .i64 m.kind)).set 1 (.int .u64 (m.ballot : Int))).set 2 (.int .u64 (m.slot : Int))).set 3 (.int .i64 m.shard)).set 4 (.int .i64 m.seg)).set 5 (.int .u64 (m.client : Int))).set 6 (.int .u64 (m.seq : Int))).set 7 (.int .u64 (m.pos : Int))).set 8 (.int .i64 m.code)).set 9 (.slice av m.vec.length cv)).set 10 (.string (ByteArray.mk s.toArray)))
  simp only [List.set] at A6
  have A7 := (((((((((((a7.other (g' := w.heap.size + 2) (by omega) 0 (.int .i64 m.kind)).other (g' := w.heap.size + 2) (by omega) 1 (.int .u64 (m.ballot : Int))).other (g' := w.heap.size + 2) (by omega) 2 (.int .u64 (m.slot : Int))).other (g' := w.heap.size + 2) (by omega) 3 (.int .i64 m.shard)).other (g' := w.heap.size + 2) (by omega) 4 (.int .i64 m.seg)).other (g' := w.heap.size + 2) (by omega) 5 (.int .u64 (m.client : Int))).other (g' := w.heap.size + 2) (by omega) 6 (.int .u64 (m.seq : Int))).other (g' := w.heap.size + 2) (by omega) 7 (.int .u64 (m.pos : Int))).other (g' := w.heap.size + 2) (by omega) 8 (.int .i64 m.code)).other (g' := w.heap.size + 2) (by omega) 9 (.slice av m.vec.length cv)).other (g' := w.heap.size + 2) (by omega) 10 (.string (ByteArray.mk s.toArray)))
  have B8 : Below w.heap.size w (((((((((((w7.setCell ⟨w.heap.size + 2, 0, none⟩ (.int .i64 m.kind)).setCell ⟨w.heap.size + 2, 1, none⟩ (.int .u64 (m.ballot : Int))).setCell ⟨w.heap.size + 2, 2, none⟩ (.int .u64 (m.slot : Int))).setCell ⟨w.heap.size + 2, 3, none⟩ (.int .i64 m.shard)).setCell ⟨w.heap.size + 2, 4, none⟩ (.int .i64 m.seg)).setCell ⟨w.heap.size + 2, 5, none⟩ (.int .u64 (m.client : Int))).setCell ⟨w.heap.size + 2, 6, none⟩ (.int .u64 (m.seq : Int))).setCell ⟨w.heap.size + 2, 7, none⟩ (.int .u64 (m.pos : Int))).setCell ⟨w.heap.size + 2, 8, none⟩ (.int .i64 m.code)).setCell ⟨w.heap.size + 2, 9, none⟩ (.slice av m.vec.length cv)).setCell ⟨w.heap.size + 2, 10, none⟩ (.string (ByteArray.mk s.toArray))) := (((((((((((B7.setCell (p := ⟨w.heap.size + 2, 0, none⟩) (by simp) (.int .i64 m.kind)).setCell (p := ⟨w.heap.size + 2, 1, none⟩) (by simp) (.int .u64 (m.ballot : Int))).setCell (p := ⟨w.heap.size + 2, 2, none⟩) (by simp) (.int .u64 (m.slot : Int))).setCell (p := ⟨w.heap.size + 2, 3, none⟩) (by simp) (.int .i64 m.shard)).setCell (p := ⟨w.heap.size + 2, 4, none⟩) (by simp) (.int .i64 m.seg)).setCell (p := ⟨w.heap.size + 2, 5, none⟩) (by simp) (.int .u64 (m.client : Int))).setCell (p := ⟨w.heap.size + 2, 6, none⟩) (by simp) (.int .u64 (m.seq : Int))).setCell (p := ⟨w.heap.size + 2, 7, none⟩) (by simp) (.int .u64 (m.pos : Int))).setCell (p := ⟨w.heap.size + 2, 8, none⟩) (by simp) (.int .i64 m.code)).setCell (p := ⟨w.heap.size + 2, 9, none⟩) (by simp) (.slice av m.vec.length cv)).setCell (p := ⟨w.heap.size + 2, 10, none⟩) (by simp) (.string (ByteArray.mk s.toArray)))
  have HA6 := Go.Lib.hid A6; have HA7 := Go.Lib.hid A7; have HB8 := Go.Lib.hid B8
  clear A6 A7 B8 B7 a7
  have q0 := a6.cell 0 _ rfl
  have g0 := a6.free 0
  have q1 := a6.cell 1 _ rfl
  have g1 := a6.free 1
  have q2 := a6.cell 2 _ rfl
  have g2 := a6.free 2
  have q3 := a6.cell 3 _ rfl
  have g3 := a6.free 3
  have q4 := a6.cell 4 _ rfl
  have g4 := a6.free 4
  have q5 := a6.cell 5 _ rfl
  have g5 := a6.free 5
  have q6 := a6.cell 6 _ rfl
  have g6 := a6.free 6
  have q7 := a6.cell 7 _ rfl
  have g7 := a6.free 7
  have q8 := a6.cell 8 _ rfl
  have g8 := a6.free 8
  have q9 := a6.cell 9 _ rfl
  have g9 := a6.free 9
  have q10 := a6.cell 10 _ rfl
  have g10 := a6.free 10
  have A4 := (((((((((((a4.other (g' := w.heap.size + 2) (by omega) 0 (.int .i64 m.kind)).other (g' := w.heap.size + 2) (by omega) 1 (.int .u64 (m.ballot : Int))).other (g' := w.heap.size + 2) (by omega) 2 (.int .u64 (m.slot : Int))).other (g' := w.heap.size + 2) (by omega) 3 (.int .i64 m.shard)).other (g' := w.heap.size + 2) (by omega) 4 (.int .i64 m.seg)).other (g' := w.heap.size + 2) (by omega) 5 (.int .u64 (m.client : Int))).other (g' := w.heap.size + 2) (by omega) 6 (.int .u64 (m.seq : Int))).other (g' := w.heap.size + 2) (by omega) 7 (.int .u64 (m.pos : Int))).other (g' := w.heap.size + 2) (by omega) 8 (.int .i64 m.code)).other (g' := w.heap.size + 2) (by omega) 9 (.slice av m.vec.length cv)).other (g' := w.heap.size + 2) (by omega) 10 (.string (ByteArray.mk s.toArray)))
  have HA4 := Go.Lib.hid A4
  clear A4
  refine NB.t_rs 1 2 rfl rfl (by kernel_rfl) (by kernel_rfl) (by kernel_rfl) (by kernel_rfl) (by kernel_rfl) (by intro _ _ h; cases h) (by intro _ _ h; cases h) (by go_simp) _ (by go_simp) (NB.run_op_load_agg (off := 0) (m := 2) rfl rfl Tryd.underlying74 rfl _ _ _ a4 (by kernel_rfl) (Nat.le_refl _) _ rfl (Below.refl _ w7)) (fun Q' hK => ?_)
  go_wp2
  refine hK _ _ (NB.run_op_load_agg (off := 0) (m := 2) rfl rfl Tryd.underlying74 rfl _ _ _ HA4.out (by kernel_rfl) (Nat.le_refl _) _ rfl (Below.refl _ _)) ?_
  clear hK Q' HA4 q0 g0 q1 g1 q2 g2 q3 g3 q4 g4 q5 g5 q6 g6 q7 g7 q8 g8 q9 g9 q10 g10
  generalize (((((((((((w7.setCell ⟨w.heap.size + 2, 0, none⟩ (.int .i64 m.kind)).setCell ⟨w.heap.size + 2, 1, none⟩ (.int .u64 (m.ballot : Int))).setCell ⟨w.heap.size + 2, 2, none⟩ (.int .u64 (m.slot : Int))).setCell ⟨w.heap.size + 2, 3, none⟩ (.int .i64 m.shard)).setCell ⟨w.heap.size + 2, 4, none⟩ (.int .i64 m.seg)).setCell ⟨w.heap.size + 2, 5, none⟩ (.int .u64 (m.client : Int))).setCell ⟨w.heap.size + 2, 6, none⟩ (.int .u64 (m.seq : Int))).setCell ⟨w.heap.size + 2, 7, none⟩ (.int .u64 (m.pos : Int))).setCell ⟨w.heap.size + 2, 8, none⟩ (.int .i64 m.code)).setCell ⟨w.heap.size + 2, 9, none⟩ (.slice av m.vec.length cv)).setCell ⟨w.heap.size + 2, 10, none⟩ (.string (ByteArray.mk s.toArray))) = w8 at *
  have A7 := HA7.out
  have F6 := HA6.out.other (g' := w.heap.size + 3) (by omega) 0 (.string (ByteArray.mk R'.b.toArray))
  have F6 := F6.other (g' := w.heap.size + 3) (by omega) 1 (.int .i64 R'.e)
  have F7 := (A7.set 0 (.string (ByteArray.mk R'.b.toArray))).set 1 (.int .i64 R'.e)
  simp only [List.set] at F7
  have B9 := (HB8.out.setCell (p := ⟨w.heap.size + 3, 0, none⟩) (by simp) (.string (ByteArray.mk R'.b.toArray))).setCell (p := ⟨w.heap.size + 3, 1, none⟩) (by simp) (.int .i64 R'.e)
  have HF6 := Go.Lib.hid F6; have HF7 := Go.Lib.hid F7; have HB9 := Go.Lib.hid B9
  clear F6 F7 B9
  obtain ⟨q0, q1, g0, g1⟩ := NB.rw2 A7
  refine NB.t_w 3 rfl (by kernel_rfl) (by kernel_rfl) rfl (fun Q' hK => ?_)
  go_wp2
  clear q0 q1 g0 g1 A7 HA6 HA7 HB8
  generalize ((w8.setCell ⟨w.heap.size + 3, 0, none⟩ (.string (ByteArray.mk R'.b.toArray))).setCell ⟨w.heap.size + 3, 1, none⟩ (.int .i64 R'.e)) = w9 at *
  refine NB.t_end (by kernel_rfl) ?_
  go_wp2
  have F6 := HF6.out; have F7 := HF7.out
  have q0 := F6.cell 0 _ rfl
  have q1 := F6.cell 1 _ rfl
  have q2 := F6.cell 2 _ rfl
  have q3 := F6.cell 3 _ rfl
  have q4 := F6.cell 4 _ rfl
  have q5 := F6.cell 5 _ rfl
  have q6 := F6.cell 6 _ rfl
  have q7 := F6.cell 7 _ rfl
  have q8 := F6.cell 8 _ rfl
  have q9 := F6.cell 9 _ rfl
  have q10 := F6.cell 10 _ rfl
  have c0 := F7.cell 0 _ rfl
  have c1 := F7.cell 1 _ rfl
  have hlt := F7.lt
  have hlt6 := F6.lt
  refine bodyPost_ret (v := .tuple #[.agg #[.int .i64 m.kind, .int .u64 (m.ballot : Int), .int .u64 (m.slot : Int), .int .i64 m.shard, .int .i64 m.seg, .int .u64 (m.client : Int), .int .u64 (m.seq : Int), .int .u64 (m.pos : Int), .int .i64 m.code, .slice av m.vec.length cv, .string (ByteArray.mk s.toArray)], .agg #[.string (ByteArray.mk R'.b.toArray), .int .i64 R'.e]]) (by simp [results, Tryd.results30, go_sem, q0, q1, q2, q3, q4, q5, q6, q7, q8, q9, q10, c0, c1, hlt, hlt6]) rfl ?_
  exact take_mk R' (show (readF 9 m r).1 = R' from (show (r.bytes 32768).1 = R' by rw [HRX.out])) (by decide) { m with body := s } rfl HR.out HB9.out (fun _ => by show _ = { m with body := (r.bytes 32768).2 }; rw [HRX.out])
end Go.Proofs.YtadgokegjmigoaaDoor

