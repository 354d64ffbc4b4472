/- Rgb, Rgc, as one text. -/
import Derived.Test.YtadgokegjmigoaaDoorRga
import Derived.Test.YtadgokegjmigoaaDoorMgh
import Derived.Test.YtadgokegjmigoaaDoorFry
namespace Go.Proofs.YtadgokegjmigoaaDoor
open Go.RowKit Go.Shelf
open Go.NB (Rd Kp Stp Off Dis oneB dB Rw RdU Lp Rr encU encB digs u64v rep)

theorem TK.kp {w W W' : World} {mv rv : List Value} {F : Nat → Prop} (h : TK w mv rv W) (hk : Kp F W W') (hF : ∀ k, F k → w.heap.size + 4 ≤ k) : TK w mv rv W' :=
  ⟨h.p3.keep hk (fun f => by have := hF _ f; omega), h.p4.keep hk (fun f => by have := hF _ f; omega), h.p6.keep hk (fun f => by have := hF _ f; omega), h.p7.keep hk (fun f => by have := hF _ f; omega), h.bel.trans (hk.belowB h.bel.size (fun k hf => by have := hF k hf; omega))⟩
/-- While the row is read. -/
structure TV (w : World) (m : Mm) (mi : Rr) (aL : Option Addr) (cL : Nat) (xs : List Nat) (W : World) : Prop where
  tk : TK w [.int .i64 m.kind, .int .u64 (m.ballot : Int), .int .u64 (m.slot : Int), .int .i64 m.shard, .int .i64 m.seg, .int .u64 (m.client : Int), .int .u64 (m.seq : Int), .int .u64 (m.pos : Int), .int .i64 m.code, .slice aL xs.length cL, .string (ByteArray.mk m.body.toArray)] [.string (ByteArray.mk mi.b.toArray), .int .i64 mi.e] W
  own : W.ownsRow (w.heap.size + 4) 29 1 (.slice aL xs.length cL) xs.length (xs.map u64v)
  lt : ∀ x ∈ xs, x < 18446744073709551616
section
variable {w W W' : World} {m : Mm} {mi mi' : Rr} {aL a' : Option Addr} {cL c' : Nat} {xs : List Nat}
theorem TV.below (h : TV w m mi aL cL xs W) (hb : Below W.heap.size W W') : TV w m mi aL cL xs W' := ⟨h.tk.below hb, NB.own_keep h.own hb, h.lt⟩
theorem TV.setR (h : TV w m mi aL cL xs W) (mi' : Rr) : TV w m mi' aL cL xs ((W.setCell ⟨w.heap.size + 1, 0, none⟩ (.string (ByteArray.mk mi'.b.toArray))).setCell ⟨w.heap.size + 1, 1, none⟩ (.int .i64 mi'.e)) :=
  ⟨(h.tk.setR 0 _).setR 1 _, (((Kp.refl (fun k => k = w.heap.size + 1) W).setCell (x := ⟨w.heap.size + 1, 0, none⟩) (.inl rfl) _).setCell (x := ⟨w.heap.size + 1, 1, none⟩) (.inl rfl) _).own h.own (fun k e hk => by have := (h.own.lt k e).1; omega), h.lt⟩
theorem TV.app (h : TV w m mi aL cL xs W) {y : Nat} (hy : y < 18446744073709551616) (hg : W.grownBy W' (Value.slice aL xs.length cL).ownBlock) (ho : W'.ownsRow (w.heap.size + 4) 29 1 (.slice a' (xs ++ [y]).length c') (xs ++ [y]).length ((xs ++ [y]).map u64v)) :
    TV w m mi a' c' (xs ++ [y]) (W'.setCell ⟨w.heap.size, 9, none⟩ (.slice a' (xs ++ [y]).length c')) := by
  have hk : Kp (fun k => (Value.slice aL xs.length cL).ownBlock = some k) W W' := (Kp.refl _ W).grown hg fun k e => .inl e
  have T1 := h.tk.kp hk (fun k e => (h.own.lt k e).1)
  refine ⟨T1.setM 9 _, ((Kp.refl (fun k => k = w.heap.size) W').setCell (x := ⟨w.heap.size, 9, none⟩) (.inl rfl) _).own ho (fun k e hf => by have := (ho.lt k e).1; omega), fun x hx => ?_⟩
  rcases List.mem_append.1 hx with hx | hx
  · exact h.lt x hx
  · rw [List.mem_singleton.1 hx]; exact hy
end
theorem readF8_er {m : Mm} {r R' : Rr} {x : Nat} (h : r.uint = (R', x)) (he : R'.e ≠ 0) : (readF 8 m r).1 = R' := by
  have hz := uint_err_zero r
  rw [h] at hz
  show (rep Rr.uint (Rr.upto 13 257 r).2 (Rr.upto 13 257 r).1).1 = R'
  rw [upto_er h 13 257 he, hz he]; rfl
theorem readF8_big {m : Mm} {r R' : Rr} {x : Nat} (h : r.uint = (R', x)) (he : R'.e = 0) (hx : 257 ≤ x) : (readF 8 m r).1 = ⟨R'.b, 13⟩ := by
  show (rep Rr.uint (Rr.upto 13 257 r).2 (Rr.upto 13 257 r).1).1 = _
  rw [upto_big h 13 257 he hx]; rfl
theorem readF8_ok {m : Mm} {r R' : Rr} {x : Nat} (h : r.uint = (R', x)) (hx : x < 257) : readF 8 m r = ((rep Rr.uint x R').1, { m with vec := (rep Rr.uint x R').2 }) := by
  show ((rep Rr.uint (Rr.upto 13 257 r).2 (Rr.upto 13 257 r).1).1, { m with vec := (rep Rr.uint (Rr.upto 13 257 r).2 (Rr.upto 13 257 r).1).2 }) = _
  rw [upto_ok h 13 257 hx]
theorem take_mk8 {w w' : World} {m : Mm} {av : Option Addr} {cv : Nat} {r : Rr} (R : Rr) (h1 : (readF 8 m r).1 = R) (m' : Mm) (av' : Option Addr) (cv' : Nat) (hR : RdU w' av' m'.vec.length cv' m'.vec) (hb : Below w.heap.size w w') (h2 : R.e = 0 → m' = (readF 8 m r).2) (h3 : ∀ j o, av' = some ⟨j, o, none⟩ → w.heap.size ≤ j) :
    TakeE w 8 m av cv r (.returned (.tuple #[.agg (mVl m' av' cv').toArray, .agg #[.string (ByteArray.mk R.b.toArray), .int .i64 R.e]])) w' :=
  ⟨m', av', cv', by rw [h1], hR, hb, by rw [h1]; exact h2, fun h => absurd rfl h, fun j o e _ => h3 j o e⟩

set_option maxRecDepth 100000 in
set_option maxHeartbeats 16000000 in
theorem take_8 (w : World) (m : Mm) (r : Rr) (hv : m.vec = []) (hl : r.b.length ≤ 100000000) :
    Calls Tryd.prog 30 #[.agg #[.int .i64 m.kind, .int .u64 (m.ballot : Int), .int .u64 (m.slot : Int), .int .i64 m.shard, .int .i64 m.seg, .int .u64 (m.client : Int), .int .u64 (m.seq : Int), .int .u64 (m.pos : Int), .int .i64 m.code, .slice none 0 0, .string (ByteArray.mk m.body.toArray)], .agg #[.string (ByteArray.mk r.b.toArray), .int .i64 r.e], .int .u8 118] w (TakeE w 8 m none 0 r) := by
  have ctr := fun w => refRead_any w r hl
  unfold refR RefRU at ctr
  obtain ⟨R', x, hrx⟩ : ∃ R' x, r.uint = (R', x) := ⟨_, _, rfl⟩
  rw [hrx] at ctr
  simp only at ctr
  have HC := Go.Lib.hid ctr; have HRX := Go.Lib.hid hrx
  clear ctr hrx
  have T0 := TK.start w (.int .i64 m.kind) (.int .u64 (m.ballot : Int)) (.int .u64 (m.slot : Int)) (.int .i64 m.shard) (.int .i64 m.seg) (.int .u64 (m.client : Int)) (.int .u64 (m.seq : Int)) (.int .u64 (m.pos : Int)) (.int .i64 m.code) (.slice none 0 0) (.string (ByteArray.mk m.body.toArray)) (.string (ByteArray.mk r.b.toArray)) (.int .i64 r.e)
  have HV := Go.Lib.hid hv
  clear hv
  go_enter Tryd.func30, Tryd.ntmps30
  go_wp2_with fail
  generalize ((((w.alloc (.cells #[.int .i64 m.kind, .int .u64 (m.ballot : Int), .int .u64 (m.slot : Int), .int .i64 m.shard, .int .i64 m.seg, .int .u64 (m.client : Int), .int .u64 (m.seq : Int), .int .u64 (m.pos : Int), .int .i64 m.code, .slice none 0 0, .string (ByteArray.mk m.body.toArray)] 36)).alloc (.cells #[.string (ByteArray.mk r.b.toArray), .int .i64 r.e] 74)).alloc (.cells #[.int .i64 0, .int .u64 0, .int .u64 0, .int .i64 0, .int .i64 0, .int .u64 0, .int .u64 0, .int .u64 0, .int .i64 0, .slice none 0 0, .string (ByteArray.mk #[])] 36)).alloc (.cells #[.string (ByteArray.mk #[]), .int .i64 0] 74)) = w4 at *
  refine (HC.out _).mono ?_
  rintro e w5 ⟨rfl, hb5⟩
  have T5 := T0.below hb5
  clear T0 hb5
  obtain ⟨p0, p1, n0, n1⟩ := NB.rw2 T5.p4
  have T6 := (T5.setR 0 (.string (ByteArray.mk R'.b.toArray))).setR 1 (.int .i64 R'.e)
  simp only [List.set] at T6
  have HT6 := Go.Lib.hid T6
  clear T6 HC
  by_cases he : R'.e = 0
  case neg =>
    have heb : (R'.e != 0) = true := by simpa using he
    have HE := Go.Lib.hid he
    clear he
    go_wp2_with fail
    have T := HT6.out
    clear HT6 T5 p0 p1 n0 n1
    generalize ((w5.setCell ⟨w.heap.size + 1, 0, none⟩ (.string (ByteArray.mk R'.b.toArray))).setCell ⟨w.heap.size + 1, 1, none⟩ (.int .i64 R'.e)) = w6 at *
    refine NB.wp_region_t [2, 3] (by kernel_rfl) ?_
    have T9 := T.below (dB w6)
    clear T
    generalize w6.drew = w7 at *
    have a3 := T9.p3; have a4 := T9.p4; have a6 := T9.p6; have a7 := T9.p7; have B7 := T9.bel
    clear T9
    refine NB.t_r 0 [2, 3] rfl (by kernel_rfl) (by kernel_rfl) (by go_simp) _ (fun w' hw' => NB.run_op_load_agg (off := 0) (m := 11) rfl rfl Tryd.underlying36 rfl _ _ _ a3 (by kernel_rfl) (Nat.le_refl _) _ rfl hw') (fun K hK => ?_); go_simp; refine hK _ ?_; clear hK K
    have A6 := (((((((((((a6.set 0 (.int .i64 m.kind)).set 1 (.int .u64 (m.ballot : Int))).set 2 (.int .u64 (m.slot : Int))).set 3 (.int .i64 m.shard)).set 4 (.int .i64 m.seg)).set 5 (.int .u64 (m.client : Int))).set 6 (.int .u64 (m.seq : Int))).set 7 (.int .u64 (m.pos : Int))).set 8 (.int .i64 m.code)).set 9 (.slice none 0 0)).set 10 (.string (ByteArray.mk m.body.toArray)))
    simp only [List.set] at A6
    have A7 := (((((((((((a7.other (g' := w.heap.size + 2) (by omega) 0 (.int .i64 m.kind)).other (g' := w.heap.size + 2) (by omega) 1 (.int .u64 (m.ballot : Int))).other (g' := w.heap.size + 2) (by omega) 2 (.int .u64 (m.slot : Int))).other (g' := w.heap.size + 2) (by omega) 3 (.int .i64 m.shard)).other (g' := w.heap.size + 2) (by omega) 4 (.int .i64 m.seg)).other (g' := w.heap.size + 2) (by omega) 5 (.int .u64 (m.client : Int))).other (g' := w.heap.size + 2) (by omega) 6 (.int .u64 (m.seq : Int))).other (g' := w.heap.size + 2) (by omega) 7 (.int .u64 (m.pos : Int))).other (g' := w.heap.size + 2) (by omega) 8 (.int .i64 m.code)).other (g' := w.heap.size + 2) (by omega) 9 (.slice none 0 0)).other (g' := w.heap.size + 2) (by omega) 10 (.string (ByteArray.mk m.body.toArray)))
    have B8 : Below w.heap.size w (((((((((((w7.setCell ⟨w.heap.size + 2, 0, none⟩ (.int .i64 m.kind)).setCell ⟨w.heap.size + 2, 1, none⟩ (.int .u64 (m.ballot : Int))).setCell ⟨w.heap.size + 2, 2, none⟩ (.int .u64 (m.slot : Int))).setCell ⟨w.heap.size + 2, 3, none⟩ (.int .i64 m.shard)).setCell ⟨w.heap.size + 2, 4, none⟩ (.int .i64 m.seg)).setCell ⟨w.heap.size + 2, 5, none⟩ (.int .u64 (m.client : Int))).setCell ⟨w.heap.size + 2, 6, none⟩ (.int .u64 (m.seq : Int))).setCell ⟨w.heap.size + 2, 7, none⟩ (.int .u64 (m.pos : Int))).setCell ⟨w.heap.size + 2, 8, none⟩ (.int .i64 m.code)).setCell ⟨w.heap.size + 2, 9, none⟩ (.slice none 0 0)).setCell ⟨w.heap.size + 2, 10, none⟩ (.string (ByteArray.mk m.body.toArray))) := (((((((((((B7.setCell (p := ⟨w.heap.size + 2, 0, none⟩) (by simp) (.int .i64 m.kind)).setCell (p := ⟨w.heap.size + 2, 1, none⟩) (by simp) (.int .u64 (m.ballot : Int))).setCell (p := ⟨w.heap.size + 2, 2, none⟩) (by simp) (.int .u64 (m.slot : Int))).setCell (p := ⟨w.heap.size + 2, 3, none⟩) (by simp) (.int .i64 m.shard)).setCell (p := ⟨w.heap.size + 2, 4, none⟩) (by simp) (.int .i64 m.seg)).setCell (p := ⟨w.heap.size + 2, 5, none⟩) (by simp) (.int .u64 (m.client : Int))).setCell (p := ⟨w.heap.size + 2, 6, none⟩) (by simp) (.int .u64 (m.seq : Int))).setCell (p := ⟨w.heap.size + 2, 7, none⟩) (by simp) (.int .u64 (m.pos : Int))).setCell (p := ⟨w.heap.size + 2, 8, none⟩) (by simp) (.int .i64 m.code)).setCell (p := ⟨w.heap.size + 2, 9, none⟩) (by simp) (.slice none 0 0)).setCell (p := ⟨w.heap.size + 2, 10, none⟩) (by simp) (.string (ByteArray.mk m.body.toArray)))
    have HA6 := Go.Lib.hid A6; have HA7 := Go.Lib.hid A7; have HB8 := Go.Lib.hid B8
    clear A6 A7 B8 B7 a7
    have q0 := a6.cell 0 _ rfl
    have g0 := a6.free 0
    have q1 := a6.cell 1 _ rfl
    have g1 := a6.free 1
    have q2 := a6.cell 2 _ rfl
    have g2 := a6.free 2
    have q3 := a6.cell 3 _ rfl
    have g3 := a6.free 3
    have q4 := a6.cell 4 _ rfl
    have g4 := a6.free 4
    have q5 := a6.cell 5 _ rfl
    have g5 := a6.free 5
    have q6 := a6.cell 6 _ rfl
    have g6 := a6.free 6
    have q7 := a6.cell 7 _ rfl
    have g7 := a6.free 7
    have q8 := a6.cell 8 _ rfl
    have g8 := a6.free 8
    have q9 := a6.cell 9 _ rfl
    have g9 := a6.free 9
    have q10 := a6.cell 10 _ rfl
    have g10 := a6.free 10
    have A4 := (((((((((((a4.other (g' := w.heap.size + 2) (by omega) 0 (.int .i64 m.kind)).other (g' := w.heap.size + 2) (by omega) 1 (.int .u64 (m.ballot : Int))).other (g' := w.heap.size + 2) (by omega) 2 (.int .u64 (m.slot : Int))).other (g' := w.heap.size + 2) (by omega) 3 (.int .i64 m.shard)).other (g' := w.heap.size + 2) (by omega) 4 (.int .i64 m.seg)).other (g' := w.heap.size + 2) (by omega) 5 (.int .u64 (m.client : Int))).other (g' := w.heap.size + 2) (by omega) 6 (.int .u64 (m.seq : Int))).other (g' := w.heap.size + 2) (by omega) 7 (.int .u64 (m.pos : Int))).other (g' := w.heap.size + 2) (by omega) 8 (.int .i64 m.code)).other (g' := w.heap.size + 2) (by omega) 9 (.slice none 0 0)).other (g' := w.heap.size + 2) (by omega) 10 (.string (ByteArray.mk m.body.toArray)))
    have HA4 := Go.Lib.hid A4
    clear A4
    refine NB.t_rs 1 2 rfl rfl (by kernel_rfl) (by kernel_rfl) (by kernel_rfl) (by kernel_rfl) (by kernel_rfl) (by intro _ _ h; cases h) (by intro _ _ h; cases h) (by go_simp) _ (by go_simp) (NB.run_op_load_agg (off := 0) (m := 2) rfl rfl Tryd.underlying74 rfl _ _ _ a4 (by kernel_rfl) (Nat.le_refl _) _ rfl (Below.refl _ w7)) (fun Q' hK => ?_)
    go_wp2
    refine hK _ _ (NB.run_op_load_agg (off := 0) (m := 2) rfl rfl Tryd.underlying74 rfl _ _ _ HA4.out (by kernel_rfl) (Nat.le_refl _) _ rfl (Below.refl _ _)) ?_
    clear hK Q' HA4 q0 g0 q1 g1 q2 g2 q3 g3 q4 g4 q5 g5 q6 g6 q7 g7 q8 g8 q9 g9 q10 g10
    generalize (((((((((((w7.setCell ⟨w.heap.size + 2, 0, none⟩ (.int .i64 m.kind)).setCell ⟨w.heap.size + 2, 1, none⟩ (.int .u64 (m.ballot : Int))).setCell ⟨w.heap.size + 2, 2, none⟩ (.int .u64 (m.slot : Int))).setCell ⟨w.heap.size + 2, 3, none⟩ (.int .i64 m.shard)).setCell ⟨w.heap.size + 2, 4, none⟩ (.int .i64 m.seg)).setCell ⟨w.heap.size + 2, 5, none⟩ (.int .u64 (m.client : Int))).setCell ⟨w.heap.size + 2, 6, none⟩ (.int .u64 (m.seq : Int))).setCell ⟨w.heap.size + 2, 7, none⟩ (.int .u64 (m.pos : Int))).setCell ⟨w.heap.size + 2, 8, none⟩ (.int .i64 m.code)).setCell ⟨w.heap.size + 2, 9, none⟩ (.slice none 0 0)).setCell ⟨w.heap.size + 2, 10, none⟩ (.string (ByteArray.mk m.body.toArray))) = w8 at *
    have A7 := HA7.out
    have F6 := HA6.out.other (g' := w.heap.size + 3) (by omega) 0 (.string (ByteArray.mk R'.b.toArray))
    have F6 := F6.other (g' := w.heap.size + 3) (by omega) 1 (.int .i64 R'.e)
    have F7 := (A7.set 0 (.string (ByteArray.mk R'.b.toArray))).set 1 (.int .i64 R'.e)
    simp only [List.set] at F7
    have B9 := (HB8.out.setCell (p := ⟨w.heap.size + 3, 0, none⟩) (by simp) (.string (ByteArray.mk R'.b.toArray))).setCell (p := ⟨w.heap.size + 3, 1, none⟩) (by simp) (.int .i64 R'.e)
    have HF6 := Go.Lib.hid F6; have HF7 := Go.Lib.hid F7; have HB9 := Go.Lib.hid B9
    clear F6 F7 B9
    obtain ⟨q0, q1, g0, g1⟩ := NB.rw2 A7
    refine NB.t_w 3 rfl (by kernel_rfl) (by kernel_rfl) rfl (fun Q' hK => ?_)
    go_wp2
    clear q0 q1 g0 g1 A7 HA6 HA7 HB8
    generalize ((w8.setCell ⟨w.heap.size + 3, 0, none⟩ (.string (ByteArray.mk R'.b.toArray))).setCell ⟨w.heap.size + 3, 1, none⟩ (.int .i64 R'.e)) = w9 at *
    refine NB.t_end (by kernel_rfl) ?_
    go_wp2
    have F6 := HF6.out; have F7 := HF7.out
    have q0 := F6.cell 0 _ rfl
    have q1 := F6.cell 1 _ rfl
    have q2 := F6.cell 2 _ rfl
    have q3 := F6.cell 3 _ rfl
    have q4 := F6.cell 4 _ rfl
    have q5 := F6.cell 5 _ rfl
    have q6 := F6.cell 6 _ rfl
    have q7 := F6.cell 7 _ rfl
    have q8 := F6.cell 8 _ rfl
    have q9 := F6.cell 9 _ rfl
    have q10 := F6.cell 10 _ rfl
    have c0 := F7.cell 0 _ rfl
    have c1 := F7.cell 1 _ rfl
    have hlt := F7.lt
    have hlt6 := F6.lt
    refine bodyPost_ret (v := .tuple #[.agg #[.int .i64 m.kind, .int .u64 (m.ballot : Int), .int .u64 (m.slot : Int), .int .i64 m.shard, .int .i64 m.seg, .int .u64 (m.client : Int), .int .u64 (m.seq : Int), .int .u64 (m.pos : Int), .int .i64 m.code, .slice none 0 0, .string (ByteArray.mk m.body.toArray)], .agg #[.string (ByteArray.mk R'.b.toArray), .int .i64 R'.e]]) (by simp [results, Tryd.results30, go_sem, q0, q1, q2, q3, q4, q5, q6, q7, q8, q9, q10, c0, c1, hlt, hlt6]) rfl ?_
    exact take_mk8 R' (readF8_er HRX.out HE.out) { m with vec := [] } none 0 (rdU_nil _) HB9.out (fun h => absurd h HE.out) (fun _ _ e => nomatch e)
  have heb : (R'.e != 0) = false := by simpa using he
  have HE := Go.Lib.hid he
  clear he
  by_cases hxb : 257 ≤ x
  · have hxi : (256 : Int) < (x : Int) := by omega
    have HXB := Go.Lib.hid hxb
    clear hxb
    have T7 := HT6.out.setR 1 (.int .i64 13)
    have HT7 := Go.Lib.hid T7
    clear HT6 T7
    go_wp2_with fail
    have T := HT7.out
    clear HT7 T5 p0 p1 n0 n1
    simp only [List.set] at T
    generalize ((((w5.setCell ⟨w.heap.size + 1, 0, none⟩ (.string (ByteArray.mk R'.b.toArray))).setCell ⟨w.heap.size + 1, 1, none⟩ (.int .i64 R'.e))).setCell ⟨w.heap.size + 1, 1, none⟩ (.int .i64 13)) = w6 at *
    refine NB.wp_region_t [2, 3] (by kernel_rfl) ?_
    have T9 := T.below (dB w6)
    clear T
    generalize w6.drew = w7 at *
    have a3 := T9.p3; have a4 := T9.p4; have a6 := T9.p6; have a7 := T9.p7; have B7 := T9.bel
    clear T9
    refine NB.t_r 0 [2, 3] rfl (by kernel_rfl) (by kernel_rfl) (by go_simp) _ (fun w' hw' => NB.run_op_load_agg (off := 0) (m := 11) rfl rfl Tryd.underlying36 rfl _ _ _ a3 (by kernel_rfl) (Nat.le_refl _) _ rfl hw') (fun K hK => ?_); go_simp; refine hK _ ?_; clear hK K
    have A6 := (((((((((((a6.set 0 (.int .i64 m.kind)).set 1 (.int .u64 (m.ballot : Int))).set 2 (.int .u64 (m.slot : Int))).set 3 (.int .i64 m.shard)).set 4 (.int .i64 m.seg)).set 5 (.int .u64 (m.client : Int))).set 6 (.int .u64 (m.seq : Int))).set 7 (.int .u64 (m.pos : Int))).set 8 (.int .i64 m.code)).set 9 (.slice none 0 0)).set 10 (.string (ByteArray.mk m.body.toArray)))
    simp only [List.set] at A6
    have A7 := (((((((((((a7.other (g' := w.heap.size + 2) (by omega) 0 (.int .i64 m.kind)).other (g' := w.heap.size + 2) (by omega) 1 (.int .u64 (m.ballot : Int))).other (g' := w.heap.size + 2) (by omega) 2 (.int .u64 (m.slot : Int))).other (g' := w.heap.size + 2) (by omega) 3 (.int .i64 m.shard)).other (g' := w.heap.size + 2) (by omega) 4 (.int .i64 m.seg)).other (g' := w.heap.size + 2) (by omega) 5 (.int .u64 (m.client : Int))).other (g' := w.heap.size + 2) (by omega) 6 (.int .u64 (m.seq : Int))).other (g' := w.heap.size + 2) (by omega) 7 (.int .u64 (m.pos : Int))).other (g' := w.heap.size + 2) (by omega) 8 (.int .i64 m.code)).other (g' := w.heap.size + 2) (by omega) 9 (.slice none 0 0)).other (g' := w.heap.size + 2) (by omega) 10 (.string (ByteArray.mk m.body.toArray)))
    have B8 : Below w.heap.size w (((((((((((w7.setCell ⟨w.heap.size + 2, 0, none⟩ (.int .i64 m.kind)).setCell ⟨w.heap.size + 2, 1, none⟩ (.int .u64 (m.ballot : Int))).setCell ⟨w.heap.size + 2, 2, none⟩ (.int .u64 (m.slot : Int))).setCell ⟨w.heap.size + 2, 3, none⟩ (.int .i64 m.shard)).setCell ⟨w.heap.size + 2, 4, none⟩ (.int .i64 m.seg)).setCell ⟨w.heap.size + 2, 5, none⟩ (.int .u64 (m.client : Int))).setCell ⟨w.heap.size + 2, 6, none⟩ (.int .u64 (m.seq : Int))).setCell ⟨w.heap.size + 2, 7, none⟩ (.int .u64 (m.pos : Int))).setCell ⟨w.heap.size + 2, 8, none⟩ (.int .i64 m.code)).setCell ⟨w.heap.size + 2, 9, none⟩ (.slice none 0 0)).setCell ⟨w.heap.size + 2, 10, none⟩ (.string (ByteArray.mk m.body.toArray))) := (((((((((((B7.setCell (p := ⟨w.heap.size + 2, 0, none⟩) (by simp) (.int .i64 m.kind)).setCell (p := ⟨w.heap.size + 2, 1, none⟩) (by simp) (.int .u64 (m.ballot : Int))).setCell (p := ⟨w.heap.size + 2, 2, none⟩) (by simp) (.int .u64 (m.slot : Int))).setCell (p := ⟨w.heap.size + 2, 3, none⟩) (by simp) (.int .i64 m.shard)).setCell (p := ⟨w.heap.size + 2, 4, none⟩) (by simp) (.int .i64 m.seg)).setCell (p := ⟨w.heap.size + 2, 5, none⟩) (by simp) (.int .u64 (m.client : Int))).setCell (p := ⟨w.heap.size + 2, 6, none⟩) (by simp) (.int .u64 (m.seq : Int))).setCell (p := ⟨w.heap.size + 2, 7, none⟩) (by simp) (.int .u64 (m.pos : Int))).setCell (p := ⟨w.heap.size + 2, 8, none⟩) (by simp) (.int .i64 m.code)).setCell (p := ⟨w.heap.size + 2, 9, none⟩) (by simp) (.slice none 0 0)).setCell (p := ⟨w.heap.size + 2, 10, none⟩) (by simp) (.string (ByteArray.mk m.body.toArray)))
    have HA6 := Go.Lib.hid A6; have HA7 := Go.Lib.hid A7; have HB8 := Go.Lib.hid B8
    clear A6 A7 B8 B7 a7
    have q0 := a6.cell 0 _ rfl
    have g0 := a6.free 0
    have q1 := a6.cell 1 _ rfl
    have g1 := a6.free 1
    have q2 := a6.cell 2 _ rfl
    have g2 := a6.free 2
    have q3 := a6.cell 3 _ rfl
    have g3 := a6.free 3
    have q4 := a6.cell 4 _ rfl
    have g4 := a6.free 4
    have q5 := a6.cell 5 _ rfl
    have g5 := a6.free 5
    have q6 := a6.cell 6 _ rfl
    have g6 := a6.free 6
    have q7 := a6.cell 7 _ rfl
    have g7 := a6.free 7
    have q8 := a6.cell 8 _ rfl
    have g8 := a6.free 8
    have q9 := a6.cell 9 _ rfl
    have g9 := a6.free 9
    have q10 := a6.cell 10 _ rfl
    have g10 := a6.free 10
    have A4 := (((((((((((a4.other (g' := w.heap.size + 2) (by omega) 0 (.int .i64 m.kind)).other (g' := w.heap.size + 2) (by omega) 1 (.int .u64 (m.ballot : Int))).other (g' := w.heap.size + 2) (by omega) 2 (.int .u64 (m.slot : Int))).other (g' := w.heap.size + 2) (by omega) 3 (.int .i64 m.shard)).other (g' := w.heap.size + 2) (by omega) 4 (.int .i64 m.seg)).other (g' := w.heap.size + 2) (by omega) 5 (.int .u64 (m.client : Int))).other (g' := w.heap.size + 2) (by omega) 6 (.int .u64 (m.seq : Int))).other (g' := w.heap.size + 2) (by omega) 7 (.int .u64 (m.pos : Int))).other (g' := w.heap.size + 2) (by omega) 8 (.int .i64 m.code)).other (g' := w.heap.size + 2) (by omega) 9 (.slice none 0 0)).other (g' := w.heap.size + 2) (by omega) 10 (.string (ByteArray.mk m.body.toArray)))
    have HA4 := Go.Lib.hid A4
    clear A4
    refine NB.t_rs 1 2 rfl rfl (by kernel_rfl) (by kernel_rfl) (by kernel_rfl) (by kernel_rfl) (by kernel_rfl) (by intro _ _ h; cases h) (by intro _ _ h; cases h) (by go_simp) _ (by go_simp) (NB.run_op_load_agg (off := 0) (m := 2) rfl rfl Tryd.underlying74 rfl _ _ _ a4 (by kernel_rfl) (Nat.le_refl _) _ rfl (Below.refl _ w7)) (fun Q' hK => ?_)
    go_wp2
    refine hK _ _ (NB.run_op_load_agg (off := 0) (m := 2) rfl rfl Tryd.underlying74 rfl _ _ _ HA4.out (by kernel_rfl) (Nat.le_refl _) _ rfl (Below.refl _ _)) ?_
    clear hK Q' HA4 q0 g0 q1 g1 q2 g2 q3 g3 q4 g4 q5 g5 q6 g6 q7 g7 q8 g8 q9 g9 q10 g10
    generalize (((((((((((w7.setCell ⟨w.heap.size + 2, 0, none⟩ (.int .i64 m.kind)).setCell ⟨w.heap.size + 2, 1, none⟩ (.int .u64 (m.ballot : Int))).setCell ⟨w.heap.size + 2, 2, none⟩ (.int .u64 (m.slot : Int))).setCell ⟨w.heap.size + 2, 3, none⟩ (.int .i64 m.shard)).setCell ⟨w.heap.size + 2, 4, none⟩ (.int .i64 m.seg)).setCell ⟨w.heap.size + 2, 5, none⟩ (.int .u64 (m.client : Int))).setCell ⟨w.heap.size + 2, 6, none⟩ (.int .u64 (m.seq : Int))).setCell ⟨w.heap.size + 2, 7, none⟩ (.int .u64 (m.pos : Int))).setCell ⟨w.heap.size + 2, 8, none⟩ (.int .i64 m.code)).setCell ⟨w.heap.size + 2, 9, none⟩ (.slice none 0 0)).setCell ⟨w.heap.size + 2, 10, none⟩ (.string (ByteArray.mk m.body.toArray))) = w8 at *
    have A7 := HA7.out
    have F6 := HA6.out.other (g' := w.heap.size + 3) (by omega) 0 (.string (ByteArray.mk R'.b.toArray))
    have F6 := F6.other (g' := w.heap.size + 3) (by omega) 1 (.int .i64 13)
    have F7 := (A7.set 0 (.string (ByteArray.mk R'.b.toArray))).set 1 (.int .i64 13)
    simp only [List.set] at F7
    have B9 := (HB8.out.setCell (p := ⟨w.heap.size + 3, 0, none⟩) (by simp) (.string (ByteArray.mk R'.b.toArray))).setCell (p := ⟨w.heap.size + 3, 1, none⟩) (by simp) (.int .i64 13)
    have HF6 := Go.Lib.hid F6; have HF7 := Go.Lib.hid F7; have HB9 := Go.Lib.hid B9
    clear F6 F7 B9
    obtain ⟨q0, q1, g0, g1⟩ := NB.rw2 A7
    refine NB.t_w 3 rfl (by kernel_rfl) (by kernel_rfl) rfl (fun Q' hK => ?_)
    go_wp2
    clear q0 q1 g0 g1 A7 HA6 HA7 HB8
    generalize ((w8.setCell ⟨w.heap.size + 3, 0, none⟩ (.string (ByteArray.mk R'.b.toArray))).setCell ⟨w.heap.size + 3, 1, none⟩ (.int .i64 13)) = w9 at *
    refine NB.t_end (by kernel_rfl) ?_
    go_wp2
    have F6 := HF6.out; have F7 := HF7.out
    have q0 := F6.cell 0 _ rfl
    have q1 := F6.cell 1 _ rfl
    have q2 := F6.cell 2 _ rfl
    have q3 := F6.cell 3 _ rfl
    have q4 := F6.cell 4 _ rfl
    have q5 := F6.cell 5 _ rfl
    have q6 := F6.cell 6 _ rfl
    have q7 := F6.cell 7 _ rfl
    have q8 := F6.cell 8 _ rfl
    have q9 := F6.cell 9 _ rfl
    have q10 := F6.cell 10 _ rfl
    have c0 := F7.cell 0 _ rfl
    have c1 := F7.cell 1 _ rfl
    have hlt := F7.lt
    have hlt6 := F6.lt
    refine bodyPost_ret (v := .tuple #[.agg #[.int .i64 m.kind, .int .u64 (m.ballot : Int), .int .u64 (m.slot : Int), .int .i64 m.shard, .int .i64 m.seg, .int .u64 (m.client : Int), .int .u64 (m.seq : Int), .int .u64 (m.pos : Int), .int .i64 m.code, .slice none 0 0, .string (ByteArray.mk m.body.toArray)], .agg #[.string (ByteArray.mk R'.b.toArray), .int .i64 13]]) (by simp [results, Tryd.results30, go_sem, q0, q1, q2, q3, q4, q5, q6, q7, q8, q9, q10, c0, c1, hlt, hlt6]) rfl ?_
    exact take_mk8 ⟨R'.b, 13⟩ (readF8_big HRX.out HE.out HXB.out) { m with vec := [] } none 0 (rdU_nil _) HB9.out (fun h => absurd h (show ¬ (13 : Int) = 0 by decide)) (fun _ _ e => nomatch e)
  have hxi : ¬ (256 : Int) < (x : Int) := by omega
  have hxl : x < 257 := by omega
  have HXB := Go.Lib.hid hxl
  have hrl := uint_keeps r
  rw [HRX.out] at hrl
  have hlb : R'.b.length ≤ 100000000 := Nat.le_trans hrl hl
  clear hxb hrl hl
  go_wp2_with fail
  have TT := HT6.out
  clear HT6 T5 p0 p1 n0 n1
  generalize ((w5.setCell ⟨w.heap.size + 1, 0, none⟩ (.string (ByteArray.mk R'.b.toArray))).setCell ⟨w.heap.size + 1, 1, none⟩ (.int .i64 R'.e)) = w6 at *
  have J0 : TV w m R' none 0 [] w6 := ⟨TT, World.ownsRow_nil _ _ _ _, (fun x hx => by cases hx)⟩
  clear TT
  go_loopw [9] (fun y wi => ∃ (i : Nat) (mi : Rr) (xs : List Nat) (aL : Option Addr) (cL : Nat), i ≤ x ∧ y = .int .u64 (i : Int) ∧ TV w m mi aL cL xs wi ∧ (mi, xs) = rep Rr.uint i R' ∧ xs.length = i ∧ mi.b.length ≤ 100000000) (fun y _ => x - (intOf y).toNat)
  case atStart => exact ⟨0, R', [], none, 0, by omega, rfl, J0, rfl, rfl, hlb⟩
  case round =>
    clear J0
    obtain ⟨i, mi, xs, aL, cL, hi, rfl, J, hrp, hxi, hli⟩ := hrel
    have HRP := Go.Lib.hid hrp
    have HXI := Go.Lib.hid hxi
    have hx4 : xs.length ≤ 256 := by omega
    clear hrp hxi
    by_cases hil : i < x
    case neg =>
      have hii : ¬ (i : Int) < (x : Int) := by omega
      obtain rfl : i = x := by omega
      go_wp2_with fail
      have T := J.tk
      have OWN := Go.Lib.hid J.own; have LT := Go.Lib.hid J.lt
      clear J hlb
      generalize wr = w6 at *
      refine NB.wp_region_t [2, 3] (by kernel_rfl) ?_
      have K7 : Kp (fun k => k < w.heap.size + 4) w6 w6.drew := (Kp.refl _ _).drew
      have T9 := T.below (dB w6)
      clear T
      generalize w6.drew = w7 at *
      have a3 := T9.p3; have a4 := T9.p4; have a6 := T9.p6; have a7 := T9.p7; have B7 := T9.bel
      clear T9
      refine NB.t_r 0 [2, 3] rfl (by kernel_rfl) (by kernel_rfl) (by go_simp) _ (fun w' hw' => NB.run_op_load_agg (off := 0) (m := 11) rfl rfl Tryd.underlying36 rfl _ _ _ a3 (by kernel_rfl) (Nat.le_refl _) _ rfl hw') (fun K hK => ?_); go_simp; refine hK _ ?_; clear hK K
      have A6 := (((((((((((a6.set 0 (.int .i64 m.kind)).set 1 (.int .u64 (m.ballot : Int))).set 2 (.int .u64 (m.slot : Int))).set 3 (.int .i64 m.shard)).set 4 (.int .i64 m.seg)).set 5 (.int .u64 (m.client : Int))).set 6 (.int .u64 (m.seq : Int))).set 7 (.int .u64 (m.pos : Int))).set 8 (.int .i64 m.code)).set 9 (.slice aL xs.length cL)).set 10 (.string (ByteArray.mk m.body.toArray)))
      simp only [List.set] at A6
      have A7 := (((((((((((a7.other (g' := w.heap.size + 2) (by omega) 0 (.int .i64 m.kind)).other (g' := w.heap.size + 2) (by omega) 1 (.int .u64 (m.ballot : Int))).other (g' := w.heap.size + 2) (by omega) 2 (.int .u64 (m.slot : Int))).other (g' := w.heap.size + 2) (by omega) 3 (.int .i64 m.shard)).other (g' := w.heap.size + 2) (by omega) 4 (.int .i64 m.seg)).other (g' := w.heap.size + 2) (by omega) 5 (.int .u64 (m.client : Int))).other (g' := w.heap.size + 2) (by omega) 6 (.int .u64 (m.seq : Int))).other (g' := w.heap.size + 2) (by omega) 7 (.int .u64 (m.pos : Int))).other (g' := w.heap.size + 2) (by omega) 8 (.int .i64 m.code)).other (g' := w.heap.size + 2) (by omega) 9 (.slice aL xs.length cL)).other (g' := w.heap.size + 2) (by omega) 10 (.string (ByteArray.mk m.body.toArray)))
      have B8 : Below w.heap.size w (((((((((((w7.setCell ⟨w.heap.size + 2, 0, none⟩ (.int .i64 m.kind)).setCell ⟨w.heap.size + 2, 1, none⟩ (.int .u64 (m.ballot : Int))).setCell ⟨w.heap.size + 2, 2, none⟩ (.int .u64 (m.slot : Int))).setCell ⟨w.heap.size + 2, 3, none⟩ (.int .i64 m.shard)).setCell ⟨w.heap.size + 2, 4, none⟩ (.int .i64 m.seg)).setCell ⟨w.heap.size + 2, 5, none⟩ (.int .u64 (m.client : Int))).setCell ⟨w.heap.size + 2, 6, none⟩ (.int .u64 (m.seq : Int))).setCell ⟨w.heap.size + 2, 7, none⟩ (.int .u64 (m.pos : Int))).setCell ⟨w.heap.size + 2, 8, none⟩ (.int .i64 m.code)).setCell ⟨w.heap.size + 2, 9, none⟩ (.slice aL xs.length cL)).setCell ⟨w.heap.size + 2, 10, none⟩ (.string (ByteArray.mk m.body.toArray))) := (((((((((((B7.setCell (p := ⟨w.heap.size + 2, 0, none⟩) (by simp) (.int .i64 m.kind)).setCell (p := ⟨w.heap.size + 2, 1, none⟩) (by simp) (.int .u64 (m.ballot : Int))).setCell (p := ⟨w.heap.size + 2, 2, none⟩) (by simp) (.int .u64 (m.slot : Int))).setCell (p := ⟨w.heap.size + 2, 3, none⟩) (by simp) (.int .i64 m.shard)).setCell (p := ⟨w.heap.size + 2, 4, none⟩) (by simp) (.int .i64 m.seg)).setCell (p := ⟨w.heap.size + 2, 5, none⟩) (by simp) (.int .u64 (m.client : Int))).setCell (p := ⟨w.heap.size + 2, 6, none⟩) (by simp) (.int .u64 (m.seq : Int))).setCell (p := ⟨w.heap.size + 2, 7, none⟩) (by simp) (.int .u64 (m.pos : Int))).setCell (p := ⟨w.heap.size + 2, 8, none⟩) (by simp) (.int .i64 m.code)).setCell (p := ⟨w.heap.size + 2, 9, none⟩) (by simp) (.slice aL xs.length cL)).setCell (p := ⟨w.heap.size + 2, 10, none⟩) (by simp) (.string (ByteArray.mk m.body.toArray)))
      have HA6 := Go.Lib.hid A6; have HA7 := Go.Lib.hid A7; have HB8 := Go.Lib.hid B8
      clear A6 A7 B8 B7 a7
      have K8 : Kp (fun k => k < w.heap.size + 4) w6 (((((((((((w7.setCell ⟨w.heap.size + 2, 0, none⟩ (.int .i64 m.kind)).setCell ⟨w.heap.size + 2, 1, none⟩ (.int .u64 (m.ballot : Int))).setCell ⟨w.heap.size + 2, 2, none⟩ (.int .u64 (m.slot : Int))).setCell ⟨w.heap.size + 2, 3, none⟩ (.int .i64 m.shard)).setCell ⟨w.heap.size + 2, 4, none⟩ (.int .i64 m.seg)).setCell ⟨w.heap.size + 2, 5, none⟩ (.int .u64 (m.client : Int))).setCell ⟨w.heap.size + 2, 6, none⟩ (.int .u64 (m.seq : Int))).setCell ⟨w.heap.size + 2, 7, none⟩ (.int .u64 (m.pos : Int))).setCell ⟨w.heap.size + 2, 8, none⟩ (.int .i64 m.code)).setCell ⟨w.heap.size + 2, 9, none⟩ (.slice aL xs.length cL)).setCell ⟨w.heap.size + 2, 10, none⟩ (.string (ByteArray.mk m.body.toArray))) := (((((((((((K7.setCell (x := ⟨w.heap.size + 2, 0, none⟩) (.inl (by simp)) (.int .i64 m.kind)).setCell (x := ⟨w.heap.size + 2, 1, none⟩) (.inl (by simp)) (.int .u64 (m.ballot : Int))).setCell (x := ⟨w.heap.size + 2, 2, none⟩) (.inl (by simp)) (.int .u64 (m.slot : Int))).setCell (x := ⟨w.heap.size + 2, 3, none⟩) (.inl (by simp)) (.int .i64 m.shard)).setCell (x := ⟨w.heap.size + 2, 4, none⟩) (.inl (by simp)) (.int .i64 m.seg)).setCell (x := ⟨w.heap.size + 2, 5, none⟩) (.inl (by simp)) (.int .u64 (m.client : Int))).setCell (x := ⟨w.heap.size + 2, 6, none⟩) (.inl (by simp)) (.int .u64 (m.seq : Int))).setCell (x := ⟨w.heap.size + 2, 7, none⟩) (.inl (by simp)) (.int .u64 (m.pos : Int))).setCell (x := ⟨w.heap.size + 2, 8, none⟩) (.inl (by simp)) (.int .i64 m.code)).setCell (x := ⟨w.heap.size + 2, 9, none⟩) (.inl (by simp)) (.slice aL xs.length cL)).setCell (x := ⟨w.heap.size + 2, 10, none⟩) (.inl (by simp)) (.string (ByteArray.mk m.body.toArray)))
      have HK8 := Go.Lib.hid K8
      clear K7 K8
      have q0 := a6.cell 0 _ rfl
      have g0 := a6.free 0
      have q1 := a6.cell 1 _ rfl
      have g1 := a6.free 1
      have q2 := a6.cell 2 _ rfl
      have g2 := a6.free 2
      have q3 := a6.cell 3 _ rfl
      have g3 := a6.free 3
      have q4 := a6.cell 4 _ rfl
      have g4 := a6.free 4
      have q5 := a6.cell 5 _ rfl
      have g5 := a6.free 5
      have q6 := a6.cell 6 _ rfl
      have g6 := a6.free 6
      have q7 := a6.cell 7 _ rfl
      have g7 := a6.free 7
      have q8 := a6.cell 8 _ rfl
      have g8 := a6.free 8
      have q9 := a6.cell 9 _ rfl
      have g9 := a6.free 9
      have q10 := a6.cell 10 _ rfl
      have g10 := a6.free 10
      have A4 := (((((((((((a4.other (g' := w.heap.size + 2) (by omega) 0 (.int .i64 m.kind)).other (g' := w.heap.size + 2) (by omega) 1 (.int .u64 (m.ballot : Int))).other (g' := w.heap.size + 2) (by omega) 2 (.int .u64 (m.slot : Int))).other (g' := w.heap.size + 2) (by omega) 3 (.int .i64 m.shard)).other (g' := w.heap.size + 2) (by omega) 4 (.int .i64 m.seg)).other (g' := w.heap.size + 2) (by omega) 5 (.int .u64 (m.client : Int))).other (g' := w.heap.size + 2) (by omega) 6 (.int .u64 (m.seq : Int))).other (g' := w.heap.size + 2) (by omega) 7 (.int .u64 (m.pos : Int))).other (g' := w.heap.size + 2) (by omega) 8 (.int .i64 m.code)).other (g' := w.heap.size + 2) (by omega) 9 (.slice aL xs.length cL)).other (g' := w.heap.size + 2) (by omega) 10 (.string (ByteArray.mk m.body.toArray)))
      have HA4 := Go.Lib.hid A4
      clear A4
      refine NB.t_rs 1 2 rfl rfl (by kernel_rfl) (by kernel_rfl) (by kernel_rfl) (by kernel_rfl) (by kernel_rfl) (by intro _ _ h; cases h) (by intro _ _ h; cases h) (by go_simp) _ (by go_simp) (NB.run_op_load_agg (off := 0) (m := 2) rfl rfl Tryd.underlying74 rfl _ _ _ a4 (by kernel_rfl) (Nat.le_refl _) _ rfl (Below.refl _ w7)) (fun Q' hK => ?_)
      go_wp2
      refine hK _ _ (NB.run_op_load_agg (off := 0) (m := 2) rfl rfl Tryd.underlying74 rfl _ _ _ HA4.out (by kernel_rfl) (Nat.le_refl _) _ rfl (Below.refl _ _)) ?_
      clear hK Q' HA4 q0 g0 q1 g1 q2 g2 q3 g3 q4 g4 q5 g5 q6 g6 q7 g7 q8 g8 q9 g9 q10 g10
      generalize (((((((((((w7.setCell ⟨w.heap.size + 2, 0, none⟩ (.int .i64 m.kind)).setCell ⟨w.heap.size + 2, 1, none⟩ (.int .u64 (m.ballot : Int))).setCell ⟨w.heap.size + 2, 2, none⟩ (.int .u64 (m.slot : Int))).setCell ⟨w.heap.size + 2, 3, none⟩ (.int .i64 m.shard)).setCell ⟨w.heap.size + 2, 4, none⟩ (.int .i64 m.seg)).setCell ⟨w.heap.size + 2, 5, none⟩ (.int .u64 (m.client : Int))).setCell ⟨w.heap.size + 2, 6, none⟩ (.int .u64 (m.seq : Int))).setCell ⟨w.heap.size + 2, 7, none⟩ (.int .u64 (m.pos : Int))).setCell ⟨w.heap.size + 2, 8, none⟩ (.int .i64 m.code)).setCell ⟨w.heap.size + 2, 9, none⟩ (.slice aL xs.length cL)).setCell ⟨w.heap.size + 2, 10, none⟩ (.string (ByteArray.mk m.body.toArray))) = w8 at *
      have A7 := HA7.out
      have F6 := HA6.out.other (g' := w.heap.size + 3) (by omega) 0 (.string (ByteArray.mk mi.b.toArray))
      have F6 := F6.other (g' := w.heap.size + 3) (by omega) 1 (.int .i64 mi.e)
      have F7 := (A7.set 0 (.string (ByteArray.mk mi.b.toArray))).set 1 (.int .i64 mi.e)
      simp only [List.set] at F7
      have B9 := (HB8.out.setCell (p := ⟨w.heap.size + 3, 0, none⟩) (by simp) (.string (ByteArray.mk mi.b.toArray))).setCell (p := ⟨w.heap.size + 3, 1, none⟩) (by simp) (.int .i64 mi.e)
      have HF6 := Go.Lib.hid F6; have HF7 := Go.Lib.hid F7; have HB9 := Go.Lib.hid B9
      clear F6 F7 B9
      have K9 : Kp (fun k => k < w.heap.size + 4) w6 ((w8.setCell ⟨w.heap.size + 3, 0, none⟩ (.string (ByteArray.mk mi.b.toArray))).setCell ⟨w.heap.size + 3, 1, none⟩ (.int .i64 mi.e)) := (HK8.out.setCell (x := ⟨w.heap.size + 3, 0, none⟩) (.inl (by simp)) (.string (ByteArray.mk mi.b.toArray))).setCell (x := ⟨w.heap.size + 3, 1, none⟩) (.inl (by simp)) (.int .i64 mi.e)
      have HK9 := Go.Lib.hid K9
      clear HK8 K9
      obtain ⟨q0, q1, g0, g1⟩ := NB.rw2 A7
      refine NB.t_w 3 rfl (by kernel_rfl) (by kernel_rfl) rfl (fun Q' hK => ?_)
      go_wp2
      clear q0 q1 g0 g1 A7 HA6 HA7 HB8
      generalize ((w8.setCell ⟨w.heap.size + 3, 0, none⟩ (.string (ByteArray.mk mi.b.toArray))).setCell ⟨w.heap.size + 3, 1, none⟩ (.int .i64 mi.e)) = w9 at *
      refine NB.t_end (by kernel_rfl) ?_
      go_wp2
      have F6 := HF6.out; have F7 := HF7.out
      have q0 := F6.cell 0 _ rfl
      have q1 := F6.cell 1 _ rfl
      have q2 := F6.cell 2 _ rfl
      have q3 := F6.cell 3 _ rfl
      have q4 := F6.cell 4 _ rfl
      have q5 := F6.cell 5 _ rfl
      have q6 := F6.cell 6 _ rfl
      have q7 := F6.cell 7 _ rfl
      have q8 := F6.cell 8 _ rfl
      have q9 := F6.cell 9 _ rfl
      have q10 := F6.cell 10 _ rfl
      have c0 := F7.cell 0 _ rfl
      have c1 := F7.cell 1 _ rfl
      have hlt := F7.lt
      have hlt6 := F6.lt
      refine bodyPost_ret (v := .tuple #[.agg #[.int .i64 m.kind, .int .u64 (m.ballot : Int), .int .u64 (m.slot : Int), .int .i64 m.shard, .int .i64 m.seg, .int .u64 (m.client : Int), .int .u64 (m.seq : Int), .int .u64 (m.pos : Int), .int .i64 m.code, .slice aL xs.length cL, .string (ByteArray.mk m.body.toArray)], .agg #[.string (ByteArray.mk mi.b.toArray), .int .i64 mi.e]]) (by simp [results, Tryd.results30, go_sem, q0, q1, q2, q3, q4, q5, q6, q7, q8, q9, q10, c0, c1, hlt, hlt6]) rfl ?_
      have hrf : readF 8 m r = (mi, { m with vec := xs }) := by rw [readF8_ok HRX.out HXB.out, ← HRP.out]
      obtain ⟨a9, c9, e9, hrd9, hlo9, _⟩ := NB.rd_of_own OWN.out
      cases e9
      have K9 : Kp (fun k => k < w.heap.size + 4) w6 w9 := HK9.out
      exact take_mk8 mi (by rw [hrf]) { m with vec := xs } aL cL ⟨K9.rd hrd9 (fun b o e _ hk => by have := (hlo9 b o e).1; omega), LT.out⟩ HB9.out (fun _ => by rw [hrf]) (fun j o e => by have := (hlo9 j o e).1; omega)
    have hii : (i : Int) < (x : Int) := by omega
    have cu := fun w => refRead_any w mi hli
    unfold refR RefRU at cu
    have hul := Rr.uint_lt mi
    have hlu := uint_keeps mi
    have hsn : rep Rr.uint (i + 1) R' = (mi.uint.1, xs ++ [mi.uint.2]) := by rw [NB.rep_snoc, ← HRP.out]
    generalize mi.uint = U at *
    obtain ⟨mu, y⟩ := U
    simp only at cu hul hsn hlu
    have HU := Go.Lib.hid cu; have HSN := Go.Lib.hid hsn
    have hwi : IntKind.u64.wrap ((i : Int) + 1) = (i : Int) + 1 := IntWalk.u64_in _ ⟨by omega, by omega⟩
    clear cu hsn
    obtain ⟨c0, c1, f0, f1⟩ := NB.rw2 J.tk.p4
    go_wp2_with fail
    clear c0 c1 f0 f1
    refine (HU.out _).mono ?_
    rintro e w2' ⟨rfl, hb2⟩
    have J2 := J.below hb2
    have J3 := J2.setR mu
    obtain ⟨c0, c1, f0, f1⟩ := NB.rw2 J2.tk.p4
    have hsz : w.heap.size + 4 ≤ ((w2'.setCell ⟨w.heap.size + 1, 0, none⟩ (.string (ByteArray.mk mu.b.toArray))).setCell ⟨w.heap.size + 1, 1, none⟩ (.int .i64 mu.e)).heap.size := by have := J3.tk.p7.lt; omega
    have d9 := J3.tk.p3.cell 9 _ rfl
    have J4 := J3.below (oneB _ (.cells #[.int .u64 (y : Int)] 29))
    have hsz4 := Nat.le_trans hsz (oneB _ (.cells #[.int .u64 (y : Int)] 29)).size
    have HJ4 := Go.Lib.hid J4
    clear J hb2 J2 HU J3 J4
    go_wp2_with (at_builtin; refine NB.wpList_append_at rfl (.tmp 99) (.tmp 101) 30 rfl (w.heap.size + 4) slTU _ xs.length (xs.map u64v) rfl HJ4.out.own _ 1 1 ([y].map u64v) rfl (u64_rd _ y _ (by simp)) (u64_one _) (by omega) (by unfold maxLen; omega) hsz4 ?_; intro v6 w6' ho6 hg6 hv6; obtain ⟨a6, c6, rfl, _⟩ := NB.rd_of_own ho6; have hl6 : xs.length + 1 = (xs ++ [y]).length := (by simp); rw [← List.map_append] at ho6; have J6 := HJ4.out.app hul hg6 (by rw [← hl6]; exact ho6); rw [← hl6] at J6; have row6 := (HJ4.out.tk.kp ((Kp.refl (fun k => (Value.slice aL xs.length cL).ownBlock = some k) _).grown hg6 (fun k e => .inl e)) (fun k e => (HJ4.out.own.lt k e).1)).p3; have e9 := row6.cell 9 _ rfl; have f9 := row6.free 9; have HJ := Go.Lib.hid J6; clear c0 c1 f0 f1 d9 HJ4 J6 ho6 hg6 hv6 row6 hsz hsz4 hl6)
    go_roundw
    case rel => exact ⟨i + 1, mu, xs ++ [y], a6, c6, by omega, by go_num, HJ.out, HSN.out.symm, by rw [List.length_append, HXI.out]; rfl, by omega⟩
    case measure => simp [intOf]; omega

theorem take_any (w : World) (m : Mm) (av : Option Addr) (cv : Nat) (r : Rr) (hR : RdU w av m.vec.length cv m.vec) (hl : r.b.length ≤ 100000000) (f : Nat) (hf : f < 10) (h8 : f = 8 → av = none ∧ cv = 0 ∧ m.vec = []) :
    Calls Tryd.prog 30 #[.agg #[.int .i64 m.kind, .int .u64 (m.ballot : Int), .int .u64 (m.slot : Int), .int .i64 m.shard, .int .i64 m.seg, .int .u64 (m.client : Int), .int .u64 (m.seq : Int), .int .u64 (m.pos : Int), .int .i64 m.code, .slice av m.vec.length cv, .string (ByteArray.mk m.body.toArray)], .agg #[.string (ByteArray.mk r.b.toArray), .int .i64 r.e], .int .u8 ((ltrs.getD f 0).toNat : Int)] w (TakeE w f m av cv r) := by
  have hcs : f = 0 ∨ f = 1 ∨ f = 2 ∨ f = 3 ∨ f = 4 ∨ f = 5 ∨ f = 6 ∨ f = 7 ∨ f = 8 ∨ f = 9 := by omega
  rcases hcs with rfl | rfl | rfl | rfl | rfl | rfl | rfl | rfl | rfl | rfl
  · exact take_0 w m av cv r hR hl
  · exact take_1 w m av cv r hR hl
  · exact take_2 w m av cv r hR hl
  · exact take_3 w m av cv r hR hl
  · exact take_4 w m av cv r hR hl
  · exact take_5 w m av cv r hR hl
  · exact take_6 w m av cv r hR hl
  · exact take_7 w m av cv r hR hl
  · obtain ⟨rfl, rfl, h3⟩ := h8 rfl
    have := take_8 w m r h3 hl
    rw [h3]
    exact this
  · exact take_9 w m av cv r hR hl
end Go.Proofs.YtadgokegjmigoaaDoor
namespace Go.Proofs.YtadgokegjmigoaaDoor
open Go.RowKit Go.Shelf
open Go.NB (Rd Kp Stp Off Dis oneB dB Rw RdU Lp Rr encU encB digs)

def RGE (w : World) (r : Mm × Int) (e : Ending) (w' : World) : Prop :=
  ∃ av cv, e = .returned (.tuple #[.agg (mVl r.1 av cv).toArray, .int .i64 r.2]) ∧ RdU w' av r.1.vec.length cv r.1.vec ∧ Below w.heap.size w w'
theorem readFs_len (l : List Nat) (hl : ∀ f ∈ l, f < 10) (hn : l.Nodup) (m : Mm) (b : List UInt8) (h : (readFs l m ⟨b, 0⟩).1.e = 0) : (readFs l m ⟨b, 0⟩).1.b.length ≤ b.length := by
  obtain ⟨_, h2⟩ := readFs_inv l hl hn m b h
  have := congrArg List.length h2
  rw [List.length_append] at this
  omega
theorem mget_err {b : List UInt8} {kb : UInt8} {bd : List UInt8} {nn : Nat} {e : Int} (hg : fgetM b = ((kb, bd), nn, e)) (he : e ≠ 0) : mgetM b = (mm0, e) := by
  unfold mgetM; rw [hg]; simp only; rw [if_pos he]
theorem mget_form {b : List UInt8} {kb : UInt8} {bd : List UInt8} {nn : Nat} (hg : fgetM b = ((kb, bd), nn, 0)) (h : nn < b.length ∨ known (kb.toNat : Int) = false) : mgetM b = (mm0, 11) := by
  unfold mgetM; rw [hg]; simp only; rw [if_neg (by simp), if_pos h]
theorem mget_read {b : List UInt8} {kb : UInt8} {bd : List UInt8} {nn : Nat} (hg : fgetM b = ((kb, bd), nn, 0)) (h : ¬ nn < b.length) (hk : known (kb.toNat : Int) = true) {kk : Nat} (hkk : kb.toNat = kk) {R : Rr} {m : Mm} (hr : (readFs (flds kk) { mm0 with kind := (kk : Int) } ⟨bd, 0⟩).1 = R) (hm : R.fin = 0 → (readFs (flds kk) { mm0 with kind := (kk : Int) } ⟨bd, 0⟩).2 = m) :
    mgetM b = if R.fin ≠ 0 then (mm0, R.fin) else (m, 0) := by
  subst hkk
  unfold mgetM; rw [hg]; simp only; rw [if_neg (by simp), if_neg (by rw [hk]; simp; omega), hr]
  by_cases h0 : R.fin = 0
  · rw [if_neg (fun h => h h0), if_neg (fun h => h h0), hm h0]
  · rw [if_pos h0, if_pos h0]
theorem stK_len : ∀ k, k < 19 → (stK.getD k []).length ≤ 7 := by decide
theorem fget_bd (b : List UInt8) : (fgetM b).1.2.length ≤ b.length := by
  rcases get_ways b with ⟨e, he, h0, hm⟩ | ⟨x, l, -, -, hu, hb, hm⟩ | ⟨x, l, -, hu, hb, hll, hm⟩ | ⟨x, l, h, hu, hb, hll, hrr, hm⟩ | ⟨x, k, l, h, hu, hb, hll, hrr, hm⟩
  all_goals rw [hm]
  all_goals simp only [List.length_nil, Nat.zero_le, List.length_take]
  rw [h]
  simp only [List.length_append, List.length_cons]
  omega
theorem stK_ne : ∀ k, k < 19 → 1 ≤ k → ¬ stK.getD k [] = [] := by decide
/-- What stands while the reference gets. -/
structure RI (w : World) (g8 : Nat) (mv rv : List Value) (W : World) : Prop where
  r2 : Rw W w.heap.size [Value.int .i64 0, .int .u64 0, .int .u64 0, .int .i64 0, .int .i64 0, .int .u64 0, .int .u64 0, .int .u64 0, .int .i64 0, .slice none 0 0, .string (ByteArray.mk #[])] 36
  r8 : Rw W g8 mv 36
  r9 : Rw W (g8 + 1) rv 74
  bel : Below w.heap.size w W
  lt : w.heap.size < g8
section
variable {w W W' : World} {g8 : Nat} {mv rv : List Value}
theorem RI.below (h : RI w g8 mv rv W) (hb : Below W.heap.size W W') : RI w g8 mv rv W' := ⟨h.r2.below hb, h.r8.below hb, h.r9.below hb, NB.bel h.bel hb h.bel.size, h.lt⟩
theorem RI.setM (h : RI w g8 mv rv W) (k : Nat) (v : Value) : RI w g8 (mv.set k v) rv (W.setCell ⟨g8, k, none⟩ v) :=
  ⟨h.r2.other (by have := h.lt; omega) k v, h.r8.set k v, h.r9.other (by omega) k v, h.bel.setCell (p := ⟨g8, k, none⟩) (Nat.le_of_lt h.lt) v, h.lt⟩
theorem RI.setR (h : RI w g8 mv rv W) (k : Nat) (v : Value) : RI w g8 mv (rv.set k v) (W.setCell ⟨g8 + 1, k, none⟩ v) :=
  ⟨h.r2.other (by have := h.lt; omega) k v, h.r8.other (by omega) k v, h.r9.set k v, h.bel.setCell (p := ⟨g8 + 1, k, none⟩) (by have := h.lt; simp; omega) v, h.lt⟩
theorem RI.setMall {x0 x1 x2 x3 x4 x5 x6 x7 x8 x9 x10 : Value} (h : RI w g8 [x0, x1, x2, x3, x4, x5, x6, x7, x8, x9, x10] rv W) (v0 v1 v2 v3 v4 v5 v6 v7 v8 v9 v10 : Value) : RI w g8 [v0, v1, v2, v3, v4, v5, v6, v7, v8, v9, v10] rv (((((((((((W.setCell ⟨g8, 0, none⟩ (v0)).setCell ⟨g8, 1, none⟩ (v1)).setCell ⟨g8, 2, none⟩ (v2)).setCell ⟨g8, 3, none⟩ (v3)).setCell ⟨g8, 4, none⟩ (v4)).setCell ⟨g8, 5, none⟩ (v5)).setCell ⟨g8, 6, none⟩ (v6)).setCell ⟨g8, 7, none⟩ (v7)).setCell ⟨g8, 8, none⟩ (v8)).setCell ⟨g8, 9, none⟩ (v9)).setCell ⟨g8, 10, none⟩ (v10)) ∧ Kp (fun k => k = g8 ∨ k = g8 + 1) W (((((((((((W.setCell ⟨g8, 0, none⟩ (v0)).setCell ⟨g8, 1, none⟩ (v1)).setCell ⟨g8, 2, none⟩ (v2)).setCell ⟨g8, 3, none⟩ (v3)).setCell ⟨g8, 4, none⟩ (v4)).setCell ⟨g8, 5, none⟩ (v5)).setCell ⟨g8, 6, none⟩ (v6)).setCell ⟨g8, 7, none⟩ (v7)).setCell ⟨g8, 8, none⟩ (v8)).setCell ⟨g8, 9, none⟩ (v9)).setCell ⟨g8, 10, none⟩ (v10)) :=
  ⟨(((((((((((h.setM 0 v0).setM 1 v1).setM 2 v2).setM 3 v3).setM 4 v4).setM 5 v5).setM 6 v6).setM 7 v7).setM 8 v8).setM 9 v9).setM 10 v10), ((((((((((((Kp.refl _ _).setCell (x := ⟨g8, 0, none⟩) (.inl (.inl rfl)) v0).setCell (x := ⟨g8, 1, none⟩) (.inl (.inl rfl)) v1).setCell (x := ⟨g8, 2, none⟩) (.inl (.inl rfl)) v2).setCell (x := ⟨g8, 3, none⟩) (.inl (.inl rfl)) v3).setCell (x := ⟨g8, 4, none⟩) (.inl (.inl rfl)) v4).setCell (x := ⟨g8, 5, none⟩) (.inl (.inl rfl)) v5).setCell (x := ⟨g8, 6, none⟩) (.inl (.inl rfl)) v6).setCell (x := ⟨g8, 7, none⟩) (.inl (.inl rfl)) v7).setCell (x := ⟨g8, 8, none⟩) (.inl (.inl rfl)) v8).setCell (x := ⟨g8, 9, none⟩) (.inl (.inl rfl)) v9).setCell (x := ⟨g8, 10, none⟩) (.inl (.inl rfl)) v10)⟩
end

set_option maxRecDepth 100000 in
set_option maxHeartbeats 16000000 in
theorem rmget_any (w : World) (b : List UInt8) (hl : b.length ≤ 100000000) :
    Calls Tryd.prog 12 #[.string (ByteArray.mk b.toArray)] w (RGE w (mgetM b)) := by
  have q1 : Rw (w.alloc (.cells #[Value.int .i64 0, .int .u64 0, .int .u64 0, .int .i64 0, .int .i64 0, .int .u64 0, .int .u64 0, .int .u64 0, .int .i64 0, .slice none 0 0, .string (ByteArray.mk #[])] 36)) w.heap.size [Value.int .i64 0, .int .u64 0, .int .u64 0, .int .i64 0, .int .i64 0, .int .u64 0, .int .u64 0, .int .u64 0, .int .i64 0, .slice none 0 0, .string (ByteArray.mk #[])] 36 := NB.rw_new w [Value.int .i64 0, .int .u64 0, .int .u64 0, .int .i64 0, .int .i64 0, .int .u64 0, .int .u64 0, .int .u64 0, .int .i64 0, .slice none 0 0, .string (ByteArray.mk #[])] 36 rfl
  have o1 := oneB w (.cells #[Value.int .i64 0, .int .u64 0, .int .u64 0, .int .i64 0, .int .i64 0, .int .u64 0, .int .u64 0, .int .u64 0, .int .i64 0, .slice none 0 0, .string (ByteArray.mk #[])] 36)
  obtain ⟨G, hG⟩ : ∃ G, mgetM b = G := ⟨_, rfl⟩
  rw [hG]
  have HG := Go.Lib.hid hG
  clear hG
  have cg := fun w => rfget_any w b hl
  unfold RGetE at cg
  obtain ⟨⟨⟨kb, bd⟩, nn, ee⟩, hg⟩ : ∃ X, fgetM b = X := ⟨_, rfl⟩
  rw [hg] at cg
  simp only at cg
  have hbd : bd.length ≤ 100000000 := by
    have := fget_bd b
    rw [hg] at this
    exact Nat.le_trans this hl
  have CG := Go.Lib.hid cg; have HGG := Go.Lib.hid hg
  clear cg hg
  go_enter Tryd.func12, Tryd.ntmps12
  go_wp2_with fail
  refine (CG.out _).mono ?_
  rintro e w1 ⟨rfl, hb1⟩
  have q2 := q1.below hb1
  have B1 := NB.bel o1 hb1 o1.size
  clear q1 o1 hb1 CG
  have F1 : Rw (w1.alloc (.cells #[.int .u8 (kb.toNat : Int), .string (ByteArray.mk bd.toArray)] 28)) w1.heap.size [Value.int .u8 (kb.toNat : Int), .string (ByteArray.mk bd.toArray)] 28 := NB.rw_new w1 [.int .u8 (kb.toNat : Int), .string (ByteArray.mk bd.toArray)] 28 rfl
  have q3 := q2.below (oneB w1 (.cells #[.int .u8 (kb.toNat : Int), .string (ByteArray.mk bd.toArray)] 28))
  have B2 := NB.bel B1 (oneB w1 (.cells #[.int .u8 (kb.toNat : Int), .string (ByteArray.mk bd.toArray)] 28)) B1.size
  have hne1 : w1.heap.size ≠ w.heap.size := by have := q2.lt; omega
  have hne2 : w.heap.size ≠ w1.heap.size := by have := q2.lt; omega
  clear q2 B1
  by_cases hee : ee = 0
  case neg =>
    have heb : (ee != 0) = true := by simpa using hee
    have hq := mget_err HGG.out hee
    rw [HG.out] at hq
    have HQ := Go.Lib.hid hq
    clear hee hq
    have R9 := (((((((((((q3.set 0 (.int .i64 0)).set 1 (.int .u64 0)).set 2 (.int .u64 0)).set 3 (.int .i64 0)).set 4 (.int .i64 0)).set 5 (.int .u64 0)).set 6 (.int .u64 0)).set 7 (.int .u64 0)).set 8 (.int .i64 0)).set 9 (.slice none 0 0)).set 10 (.string (ByteArray.mk #[])))
    simp only [List.set] at R9
    have B9 : Below w.heap.size w ((((((((((((w1.alloc (.cells #[.int .u8 (kb.toNat : Int), .string (ByteArray.mk bd.toArray)] 28)).setCell ⟨w.heap.size, 0, none⟩ (.int .i64 0)).setCell ⟨w.heap.size, 1, none⟩ (.int .u64 0)).setCell ⟨w.heap.size, 2, none⟩ (.int .u64 0)).setCell ⟨w.heap.size, 3, none⟩ (.int .i64 0)).setCell ⟨w.heap.size, 4, none⟩ (.int .i64 0)).setCell ⟨w.heap.size, 5, none⟩ (.int .u64 0)).setCell ⟨w.heap.size, 6, none⟩ (.int .u64 0)).setCell ⟨w.heap.size, 7, none⟩ (.int .u64 0)).setCell ⟨w.heap.size, 8, none⟩ (.int .i64 0)).setCell ⟨w.heap.size, 9, none⟩ (.slice none 0 0)).setCell ⟨w.heap.size, 10, none⟩ (.string (ByteArray.mk #[]))) := (((((((((((B2.setCell (p := ⟨w.heap.size, 0, none⟩) (Nat.le_refl _) (.int .i64 0)).setCell (p := ⟨w.heap.size, 1, none⟩) (Nat.le_refl _) (.int .u64 0)).setCell (p := ⟨w.heap.size, 2, none⟩) (Nat.le_refl _) (.int .u64 0)).setCell (p := ⟨w.heap.size, 3, none⟩) (Nat.le_refl _) (.int .i64 0)).setCell (p := ⟨w.heap.size, 4, none⟩) (Nat.le_refl _) (.int .i64 0)).setCell (p := ⟨w.heap.size, 5, none⟩) (Nat.le_refl _) (.int .u64 0)).setCell (p := ⟨w.heap.size, 6, none⟩) (Nat.le_refl _) (.int .u64 0)).setCell (p := ⟨w.heap.size, 7, none⟩) (Nat.le_refl _) (.int .u64 0)).setCell (p := ⟨w.heap.size, 8, none⟩) (Nat.le_refl _) (.int .i64 0)).setCell (p := ⟨w.heap.size, 9, none⟩) (Nat.le_refl _) (.slice none 0 0)).setCell (p := ⟨w.heap.size, 10, none⟩) (Nat.le_refl _) (.string (ByteArray.mk #[])))
    have HR9 := Go.Lib.hid R9; have HB9 := Go.Lib.hid B9
    clear R9 B9
    have d0 := q3.cell 0 _ rfl
    have f0 := q3.free 0
    have d1 := q3.cell 1 _ rfl
    have f1 := q3.free 1
    have d2 := q3.cell 2 _ rfl
    have f2 := q3.free 2
    have d3 := q3.cell 3 _ rfl
    have f3 := q3.free 3
    have d4 := q3.cell 4 _ rfl
    have f4 := q3.free 4
    have d5 := q3.cell 5 _ rfl
    have f5 := q3.free 5
    have d6 := q3.cell 6 _ rfl
    have f6 := q3.free 6
    have d7 := q3.cell 7 _ rfl
    have f7 := q3.free 7
    have d8 := q3.cell 8 _ rfl
    have f8 := q3.free 8
    have d9 := q3.cell 9 _ rfl
    have f9 := q3.free 9
    have d10 := q3.cell 10 _ rfl
    have f10 := q3.free 10
    go_wp2_with fail
    clear d0 f0 d1 f1 d2 f2 d3 f3 d4 f4 d5 f5 d6 f6 d7 f7 d8 f8 d9 f9 d10 f10
    generalize ((((((((((((w1.alloc (.cells #[.int .u8 (kb.toNat : Int), .string (ByteArray.mk bd.toArray)] 28)).setCell ⟨w.heap.size, 0, none⟩ (.int .i64 0)).setCell ⟨w.heap.size, 1, none⟩ (.int .u64 0)).setCell ⟨w.heap.size, 2, none⟩ (.int .u64 0)).setCell ⟨w.heap.size, 3, none⟩ (.int .i64 0)).setCell ⟨w.heap.size, 4, none⟩ (.int .i64 0)).setCell ⟨w.heap.size, 5, none⟩ (.int .u64 0)).setCell ⟨w.heap.size, 6, none⟩ (.int .u64 0)).setCell ⟨w.heap.size, 7, none⟩ (.int .u64 0)).setCell ⟨w.heap.size, 8, none⟩ (.int .i64 0)).setCell ⟨w.heap.size, 9, none⟩ (.slice none 0 0)).setCell ⟨w.heap.size, 10, none⟩ (.string (ByteArray.mk #[]))) = w9 at *
    have R9 := HR9.out
    have d0 := R9.cell 0 _ rfl
    have d1 := R9.cell 1 _ rfl
    have d2 := R9.cell 2 _ rfl
    have d3 := R9.cell 3 _ rfl
    have d4 := R9.cell 4 _ rfl
    have d5 := R9.cell 5 _ rfl
    have d6 := R9.cell 6 _ rfl
    have d7 := R9.cell 7 _ rfl
    have d8 := R9.cell 8 _ rfl
    have d9 := R9.cell 9 _ rfl
    have d10 := R9.cell 10 _ rfl
    have hlt9 := R9.lt
    refine bodyPost_ret (v := .tuple #[.agg #[Value.int .i64 0, .int .u64 0, .int .u64 0, .int .i64 0, .int .i64 0, .int .u64 0, .int .u64 0, .int .u64 0, .int .i64 0, .slice none 0 0, .string (ByteArray.mk #[])], .int .i64 ee]) (by simp [results, Tryd.results12, go_sem, d0, d1, d2, d3, d4, d5, d6, d7, d8, d9, d10, hlt9]) rfl ?_
    rw [HQ.out]
    exact ⟨none, 0, rfl, rdU_nil _, HB9.out⟩
  subst hee
  obtain ⟨c0, c1, _⟩ := NB.rw2 F1
  have hwy : IntKind.i64.wrap (kb.toNat : Int) = (kb.toNat : Int) := IntWalk.i64_in _ (by have := kb.toNat_lt; omega)
  have hwy2 : wrap64 (kb.toNat : Int) = (kb.toNat : Int) := by have := kb.toNat_lt; unfold wrap64; omega
  go_wp2_with fail
  refine (rfields_any _ (kb.toNat : Int)).mono ?_
  rintro e w3 ⟨rfl, hb3⟩
  have q4 := q3.below hb3
  have B3 := NB.bel B2 hb3 B2.size
  have F3 := F1.below hb3
  obtain ⟨c0, c1, _⟩ := NB.rw2 F3
  clear q3 B2 F1 hb3
  by_cases hn : nn < b.length
  case pos =>
    have hni : (nn : Int) < (b.length : Int) := by omega
    have hq := mget_form HGG.out (.inl hn)
    have hndd : decide (nn < b.length) = true := decide_eq_true hn
    rw [HG.out] at hq
    have HQ := Go.Lib.hid hq
    clear hn hq c0 c1
    have R9 := (((((((((((q4.set 0 (.int .i64 0)).set 1 (.int .u64 0)).set 2 (.int .u64 0)).set 3 (.int .i64 0)).set 4 (.int .i64 0)).set 5 (.int .u64 0)).set 6 (.int .u64 0)).set 7 (.int .u64 0)).set 8 (.int .i64 0)).set 9 (.slice none 0 0)).set 10 (.string (ByteArray.mk #[])))
    simp only [List.set] at R9
    have B9 : Below w.heap.size w (((((((((((w3.setCell ⟨w.heap.size, 0, none⟩ (.int .i64 0)).setCell ⟨w.heap.size, 1, none⟩ (.int .u64 0)).setCell ⟨w.heap.size, 2, none⟩ (.int .u64 0)).setCell ⟨w.heap.size, 3, none⟩ (.int .i64 0)).setCell ⟨w.heap.size, 4, none⟩ (.int .i64 0)).setCell ⟨w.heap.size, 5, none⟩ (.int .u64 0)).setCell ⟨w.heap.size, 6, none⟩ (.int .u64 0)).setCell ⟨w.heap.size, 7, none⟩ (.int .u64 0)).setCell ⟨w.heap.size, 8, none⟩ (.int .i64 0)).setCell ⟨w.heap.size, 9, none⟩ (.slice none 0 0)).setCell ⟨w.heap.size, 10, none⟩ (.string (ByteArray.mk #[]))) := (((((((((((B3.setCell (p := ⟨w.heap.size, 0, none⟩) (Nat.le_refl _) (.int .i64 0)).setCell (p := ⟨w.heap.size, 1, none⟩) (Nat.le_refl _) (.int .u64 0)).setCell (p := ⟨w.heap.size, 2, none⟩) (Nat.le_refl _) (.int .u64 0)).setCell (p := ⟨w.heap.size, 3, none⟩) (Nat.le_refl _) (.int .i64 0)).setCell (p := ⟨w.heap.size, 4, none⟩) (Nat.le_refl _) (.int .i64 0)).setCell (p := ⟨w.heap.size, 5, none⟩) (Nat.le_refl _) (.int .u64 0)).setCell (p := ⟨w.heap.size, 6, none⟩) (Nat.le_refl _) (.int .u64 0)).setCell (p := ⟨w.heap.size, 7, none⟩) (Nat.le_refl _) (.int .u64 0)).setCell (p := ⟨w.heap.size, 8, none⟩) (Nat.le_refl _) (.int .i64 0)).setCell (p := ⟨w.heap.size, 9, none⟩) (Nat.le_refl _) (.slice none 0 0)).setCell (p := ⟨w.heap.size, 10, none⟩) (Nat.le_refl _) (.string (ByteArray.mk #[])))
    have HR9 := Go.Lib.hid R9; have HB9 := Go.Lib.hid B9
    clear R9 B9
    have d0 := q4.cell 0 _ rfl
    have f0 := q4.free 0
    have d1 := q4.cell 1 _ rfl
    have f1 := q4.free 1
    have d2 := q4.cell 2 _ rfl
    have f2 := q4.free 2
    have d3 := q4.cell 3 _ rfl
    have f3 := q4.free 3
    have d4 := q4.cell 4 _ rfl
    have f4 := q4.free 4
    have d5 := q4.cell 5 _ rfl
    have f5 := q4.free 5
    have d6 := q4.cell 6 _ rfl
    have f6 := q4.free 6
    have d7 := q4.cell 7 _ rfl
    have f7 := q4.free 7
    have d8 := q4.cell 8 _ rfl
    have f8 := q4.free 8
    have d9 := q4.cell 9 _ rfl
    have f9 := q4.free 9
    have d10 := q4.cell 10 _ rfl
    have f10 := q4.free 10
    go_wp2_with fail
    clear d0 f0 d1 f1 d2 f2 d3 f3 d4 f4 d5 f5 d6 f6 d7 f7 d8 f8 d9 f9 d10 f10
    generalize (((((((((((w3.setCell ⟨w.heap.size, 0, none⟩ (.int .i64 0)).setCell ⟨w.heap.size, 1, none⟩ (.int .u64 0)).setCell ⟨w.heap.size, 2, none⟩ (.int .u64 0)).setCell ⟨w.heap.size, 3, none⟩ (.int .i64 0)).setCell ⟨w.heap.size, 4, none⟩ (.int .i64 0)).setCell ⟨w.heap.size, 5, none⟩ (.int .u64 0)).setCell ⟨w.heap.size, 6, none⟩ (.int .u64 0)).setCell ⟨w.heap.size, 7, none⟩ (.int .u64 0)).setCell ⟨w.heap.size, 8, none⟩ (.int .i64 0)).setCell ⟨w.heap.size, 9, none⟩ (.slice none 0 0)).setCell ⟨w.heap.size, 10, none⟩ (.string (ByteArray.mk #[]))) = w9 at *
    have R9 := HR9.out
    have d0 := R9.cell 0 _ rfl
    have d1 := R9.cell 1 _ rfl
    have d2 := R9.cell 2 _ rfl
    have d3 := R9.cell 3 _ rfl
    have d4 := R9.cell 4 _ rfl
    have d5 := R9.cell 5 _ rfl
    have d6 := R9.cell 6 _ rfl
    have d7 := R9.cell 7 _ rfl
    have d8 := R9.cell 8 _ rfl
    have d9 := R9.cell 9 _ rfl
    have d10 := R9.cell 10 _ rfl
    have hlt9 := R9.lt
    refine bodyPost_ret (v := .tuple #[.agg #[Value.int .i64 0, .int .u64 0, .int .u64 0, .int .i64 0, .int .i64 0, .int .u64 0, .int .u64 0, .int .u64 0, .int .i64 0, .slice none 0 0, .string (ByteArray.mk #[])], .int .i64 11]) (by simp [results, Tryd.results12, go_sem, d0, d1, d2, d3, d4, d5, d6, d7, d8, d9, d10, hlt9]) rfl ?_
    rw [HQ.out]
    exact ⟨none, 0, rfl, rdU_nil _, HB9.out⟩
  have hni : ¬ (nn : Int) < (b.length : Int) := by omega
  have hndd : decide (nn < b.length) = false := decide_eq_false hn
  by_cases hk : known (kb.toNat : Int) = true
  case neg =>
    have hf : fieldsM (kb.toNat : Int) = [] := by unfold fieldsM; rw [if_neg hk]
    rw [hf]
    have hq := mget_form HGG.out (.inr (by simpa using hk))
    rw [HG.out] at hq
    have HQ := Go.Lib.hid hq
    clear hf hk hn hq c0 c1
    have R9 := (((((((((((q4.set 0 (.int .i64 0)).set 1 (.int .u64 0)).set 2 (.int .u64 0)).set 3 (.int .i64 0)).set 4 (.int .i64 0)).set 5 (.int .u64 0)).set 6 (.int .u64 0)).set 7 (.int .u64 0)).set 8 (.int .i64 0)).set 9 (.slice none 0 0)).set 10 (.string (ByteArray.mk #[])))
    simp only [List.set] at R9
    have B9 : Below w.heap.size w (((((((((((w3.setCell ⟨w.heap.size, 0, none⟩ (.int .i64 0)).setCell ⟨w.heap.size, 1, none⟩ (.int .u64 0)).setCell ⟨w.heap.size, 2, none⟩ (.int .u64 0)).setCell ⟨w.heap.size, 3, none⟩ (.int .i64 0)).setCell ⟨w.heap.size, 4, none⟩ (.int .i64 0)).setCell ⟨w.heap.size, 5, none⟩ (.int .u64 0)).setCell ⟨w.heap.size, 6, none⟩ (.int .u64 0)).setCell ⟨w.heap.size, 7, none⟩ (.int .u64 0)).setCell ⟨w.heap.size, 8, none⟩ (.int .i64 0)).setCell ⟨w.heap.size, 9, none⟩ (.slice none 0 0)).setCell ⟨w.heap.size, 10, none⟩ (.string (ByteArray.mk #[]))) := (((((((((((B3.setCell (p := ⟨w.heap.size, 0, none⟩) (Nat.le_refl _) (.int .i64 0)).setCell (p := ⟨w.heap.size, 1, none⟩) (Nat.le_refl _) (.int .u64 0)).setCell (p := ⟨w.heap.size, 2, none⟩) (Nat.le_refl _) (.int .u64 0)).setCell (p := ⟨w.heap.size, 3, none⟩) (Nat.le_refl _) (.int .i64 0)).setCell (p := ⟨w.heap.size, 4, none⟩) (Nat.le_refl _) (.int .i64 0)).setCell (p := ⟨w.heap.size, 5, none⟩) (Nat.le_refl _) (.int .u64 0)).setCell (p := ⟨w.heap.size, 6, none⟩) (Nat.le_refl _) (.int .u64 0)).setCell (p := ⟨w.heap.size, 7, none⟩) (Nat.le_refl _) (.int .u64 0)).setCell (p := ⟨w.heap.size, 8, none⟩) (Nat.le_refl _) (.int .i64 0)).setCell (p := ⟨w.heap.size, 9, none⟩) (Nat.le_refl _) (.slice none 0 0)).setCell (p := ⟨w.heap.size, 10, none⟩) (Nat.le_refl _) (.string (ByteArray.mk #[])))
    have HR9 := Go.Lib.hid R9; have HB9 := Go.Lib.hid B9
    clear R9 B9
    have d0 := q4.cell 0 _ rfl
    have f0 := q4.free 0
    have d1 := q4.cell 1 _ rfl
    have f1 := q4.free 1
    have d2 := q4.cell 2 _ rfl
    have f2 := q4.free 2
    have d3 := q4.cell 3 _ rfl
    have f3 := q4.free 3
    have d4 := q4.cell 4 _ rfl
    have f4 := q4.free 4
    have d5 := q4.cell 5 _ rfl
    have f5 := q4.free 5
    have d6 := q4.cell 6 _ rfl
    have f6 := q4.free 6
    have d7 := q4.cell 7 _ rfl
    have f7 := q4.free 7
    have d8 := q4.cell 8 _ rfl
    have f8 := q4.free 8
    have d9 := q4.cell 9 _ rfl
    have f9 := q4.free 9
    have d10 := q4.cell 10 _ rfl
    have f10 := q4.free 10
    go_wp2_with fail
    clear d0 f0 d1 f1 d2 f2 d3 f3 d4 f4 d5 f5 d6 f6 d7 f7 d8 f8 d9 f9 d10 f10
    generalize (((((((((((w3.setCell ⟨w.heap.size, 0, none⟩ (.int .i64 0)).setCell ⟨w.heap.size, 1, none⟩ (.int .u64 0)).setCell ⟨w.heap.size, 2, none⟩ (.int .u64 0)).setCell ⟨w.heap.size, 3, none⟩ (.int .i64 0)).setCell ⟨w.heap.size, 4, none⟩ (.int .i64 0)).setCell ⟨w.heap.size, 5, none⟩ (.int .u64 0)).setCell ⟨w.heap.size, 6, none⟩ (.int .u64 0)).setCell ⟨w.heap.size, 7, none⟩ (.int .u64 0)).setCell ⟨w.heap.size, 8, none⟩ (.int .i64 0)).setCell ⟨w.heap.size, 9, none⟩ (.slice none 0 0)).setCell ⟨w.heap.size, 10, none⟩ (.string (ByteArray.mk #[]))) = w9 at *
    have R9 := HR9.out
    have d0 := R9.cell 0 _ rfl
    have d1 := R9.cell 1 _ rfl
    have d2 := R9.cell 2 _ rfl
    have d3 := R9.cell 3 _ rfl
    have d4 := R9.cell 4 _ rfl
    have d5 := R9.cell 5 _ rfl
    have d6 := R9.cell 6 _ rfl
    have d7 := R9.cell 7 _ rfl
    have d8 := R9.cell 8 _ rfl
    have d9 := R9.cell 9 _ rfl
    have d10 := R9.cell 10 _ rfl
    have hlt9 := R9.lt
    refine bodyPost_ret (v := .tuple #[.agg #[Value.int .i64 0, .int .u64 0, .int .u64 0, .int .i64 0, .int .i64 0, .int .u64 0, .int .u64 0, .int .u64 0, .int .i64 0, .slice none 0 0, .string (ByteArray.mk #[])], .int .i64 11]) (by simp [results, Tryd.results12, go_sem, d0, d1, d2, d3, d4, d5, d6, d7, d8, d9, d10, hlt9]) rfl ?_
    rw [HQ.out]
    exact ⟨none, 0, rfl, rdU_nil _, HB9.out⟩
  have hkk := known_iff.1 hk
  obtain ⟨kk, hkn⟩ : ∃ kk, kb.toNat = kk := ⟨_, rfl⟩
  have hf : fieldsM (kb.toNat : Int) = stK.getD kk [] := by unfold fieldsM; rw [if_pos hk, hkn]; rfl
  have hst := stK_flds kk (by omega) (by omega)
  have hne := stK_ne kk (by omega) (by omega)
  have hfl := stK_len kk (by omega)
  obtain ⟨hfF, hnd⟩ := flds_fine kk
  have hrd : ∀ R m, (readFs (flds kk) { mm0 with kind := (kk : Int) } ⟨bd, 0⟩).1 = R → (R.fin = 0 → (readFs (flds kk) { mm0 with kind := (kk : Int) } ⟨bd, 0⟩).2 = m) → G = if R.fin ≠ 0 then (mm0, R.fin) else (m, 0) := fun R m h1 h2 => by
    rw [← HG.out]
    exact mget_read HGG.out hn hk hkn h1 h2
  rw [hf]
  obtain ⟨F, hF⟩ : ∃ F, flds kk = F := ⟨_, rfl⟩
  obtain ⟨S, hS⟩ : ∃ S, stK.getD kk [] = S := ⟨_, rfl⟩
  rw [hF] at hst hfF hnd hrd
  rw [hS] at hst hne hfl ⊢
  have hem : (ByteArray.mk S.toArray == ByteArray.mk #[]) = false := by
    have : (S.toArray == #[]) = false := by
      rw [beq_eq_false_iff_ne]
      intro e
      exact hne (by simpa using congrArg Array.toList e)
    show (S.toArray == #[]) = false
    exact this
  have hem2 : (S == []) = false := beq_eq_false_iff_ne.2 hne
  have hSF : S.length = F.length := by rw [hst, List.length_map]
  have HST := Go.Lib.hid hst; have HFF := Go.Lib.hid hfF; have HND := Go.Lib.hid hnd; have HRD := Go.Lib.hid hrd; have HSF := Go.Lib.hid hSF
  clear hF hS hst hfF hnd hrd hSF hf hn hk hne HGG HG hkk
  have R8 : Rw ((w3.alloc (.cells #[Value.int .i64 (kk : Int), .int .u64 0, .int .u64 0, .int .i64 0, .int .i64 0, .int .u64 0, .int .u64 0, .int .u64 0, .int .i64 0, .slice none 0 0, .string (ByteArray.mk #[])] 36)).alloc (.cells #[.string (ByteArray.mk bd.toArray), .int .i64 0] 74)) w3.heap.size [Value.int .i64 (kk : Int), .int .u64 0, .int .u64 0, .int .i64 0, .int .i64 0, .int .u64 0, .int .u64 0, .int .u64 0, .int .i64 0, .slice none 0 0, .string (ByteArray.mk #[])] 36 := (NB.rw_new w3 [Value.int .i64 (kk : Int), .int .u64 0, .int .u64 0, .int .i64 0, .int .i64 0, .int .u64 0, .int .u64 0, .int .u64 0, .int .i64 0, .slice none 0 0, .string (ByteArray.mk #[])] 36 rfl).below (oneB _ _)
  have R9 : Rw ((w3.alloc (.cells #[Value.int .i64 (kk : Int), .int .u64 0, .int .u64 0, .int .i64 0, .int .i64 0, .int .u64 0, .int .u64 0, .int .u64 0, .int .i64 0, .slice none 0 0, .string (ByteArray.mk #[])] 36)).alloc (.cells #[.string (ByteArray.mk bd.toArray), .int .i64 0] 74)) (w3.heap.size + 1) [Value.string (ByteArray.mk bd.toArray), .int .i64 0] 74 := NB.rw_new (w3.alloc (.cells #[Value.int .i64 (kk : Int), .int .u64 0, .int .u64 0, .int .i64 0, .int .i64 0, .int .u64 0, .int .u64 0, .int .u64 0, .int .i64 0, .slice none 0 0, .string (ByteArray.mk #[])] 36)) [Value.string (ByteArray.mk bd.toArray), .int .i64 0] 74 (by simp)
  have I0 : RI w w3.heap.size [Value.int .i64 (kk : Int), .int .u64 0, .int .u64 0, .int .i64 0, .int .i64 0, .int .u64 0, .int .u64 0, .int .u64 0, .int .i64 0, .slice none 0 0, .string (ByteArray.mk #[])] [Value.string (ByteArray.mk bd.toArray), .int .i64 0] ((w3.alloc (.cells #[Value.int .i64 (kk : Int), .int .u64 0, .int .u64 0, .int .i64 0, .int .i64 0, .int .u64 0, .int .u64 0, .int .u64 0, .int .i64 0, .slice none 0 0, .string (ByteArray.mk #[])] 36)).alloc (.cells #[.string (ByteArray.mk bd.toArray), .int .i64 0] 74)) := ⟨(q4.below (oneB _ _)).below (oneB _ _), R8, R9, (B3.alloc B3.size _).alloc (by have := B3.size; simp; omega) _, q4.lt⟩
  have HI0 := Go.Lib.hid I0
  rw [hkn] at c0 hwy hwy2
  simp only [hkn]
  have F4 := F3.below (oneB w3 (.cells #[Value.int .i64 (kk : Int), .int .u64 0, .int .u64 0, .int .i64 0, .int .i64 0, .int .u64 0, .int .u64 0, .int .u64 0, .int .i64 0, .slice none 0 0, .string (ByteArray.mk #[])] 36))
  obtain ⟨b0, b1, _⟩ := NB.rw2 F4
  clear R8 R9 I0 q4 B3 F3 F4
  go_wp2_with fail
  clear c0 c1 b0 b1 hwy hwy2 hem hem2 hne1 hne2
  have I := HI0.out
  clear HI0
  generalize ((w3.alloc (.cells #[Value.int .i64 (kk : Int), .int .u64 0, .int .u64 0, .int .i64 0, .int .i64 0, .int .u64 0, .int .u64 0, .int .u64 0, .int .i64 0, .slice none 0 0, .string (ByteArray.mk #[])] 36)).alloc (.cells #[.string (ByteArray.mk bd.toArray), .int .i64 0] 74)) = w5 at *
  obtain ⟨g8, hg8⟩ : ∃ g8, w3.heap.size = g8 := ⟨_, rfl⟩
  simp only [hg8] at I ⊢
  clear hg8
  go_loopw [10] (fun y wr => ∃ (i : Nat) (mi : Mm) (ri : Rr) (av : Option Addr) (cv : Nat), i ≤ S.length ∧ y = .int .i64 (i : Int) ∧ RI w g8 [Value.int .i64 mi.kind, .int .u64 (mi.ballot : Int), .int .u64 (mi.slot : Int), .int .i64 mi.shard, .int .i64 mi.seg, .int .u64 (mi.client : Int), .int .u64 (mi.seq : Int), .int .u64 (mi.pos : Int), .int .i64 mi.code, .slice av mi.vec.length cv, .string (ByteArray.mk mi.body.toArray)] [.string (ByteArray.mk ri.b.toArray), .int .i64 ri.e] wr ∧ RdU wr av mi.vec.length cv mi.vec ∧ (∀ j o, av = some ⟨j, o, none⟩ → g8 + 1 < j) ∧ (8 ∉ F.take i → av = none ∧ cv = 0 ∧ mi.vec = []) ∧ ri = (readFs (F.take i) { mm0 with kind := (kk : Int) } ⟨bd, 0⟩).1 ∧ (ri.e = 0 → mi = (readFs (F.take i) { mm0 with kind := (kk : Int) } ⟨bd, 0⟩).2)) (fun y _ => S.length - (intOf y).toNat)
  case atStart => exact ⟨0, { mm0 with kind := (kk : Int) }, ⟨bd, 0⟩, none, 0, by omega, rfl, I, rdU_nil _, (fun _ _ e => nomatch e), (fun _ => ⟨rfl, rfl, rfl⟩), rfl, fun _ => rfl⟩
  case round =>
    clear I
    obtain ⟨i, mi, ri, av, cv, hi, rfl, I, hR, hav, h8, hri, hmi⟩ := hrel
    have HRI := Go.Lib.hid hri; have HMI := Go.Lib.hid hmi; have H8 := Go.Lib.hid h8; have HAV := Go.Lib.hid hav; have HR := Go.Lib.hid hR
    clear hri hmi h8 hav hR
    by_cases hgo : i < S.length ∧ ri.e = 0
    case neg =>
      have hrf : (readFs F { mm0 with kind := (kk : Int) } ⟨bd, 0⟩).1 = ri := by
        by_cases hlt : i < S.length
        · have he : ri.e ≠ 0 := fun h => hgo ⟨hlt, h⟩
          have h1 : readFs F { mm0 with kind := (kk : Int) } ⟨bd, 0⟩ = readFs (F.drop i) (readFs (F.take i) { mm0 with kind := (kk : Int) } ⟨bd, 0⟩).2 (readFs (F.take i) { mm0 with kind := (kk : Int) } ⟨bd, 0⟩).1 := by rw [← readFs_app, List.take_append_drop]
          rw [h1, ← HRI.out, readFs_stick _ _ _ he]
        · rw [HRI.out, List.take_of_length_le (by have := HSF.out; omega)]
      have hmf : ri.fin = 0 → (readFs F { mm0 with kind := (kk : Int) } ⟨bd, 0⟩).2 = mi := fun h => by
        have he : ri.e = 0 := by
          apply Classical.byContradiction
          intro he
          rw [Rr.fin_err he] at h
          exact he h
        have hlt : ¬ i < S.length := fun hlt => hgo ⟨hlt, he⟩
        rw [HMI.out he, List.take_of_length_le (by have := HSF.out; omega)]
      have hG := HRD.out ri mi hrf hmf
      have HG := Go.Lib.hid hG
      have ce := fun W => refEnd_any W ri
      unfold refR at ce
      have CE := Go.Lib.hid ce
      obtain ⟨u0, u1, _⟩ := NB.rw2 I.r9
      have hstop : ¬ (i : Int) < (S.length : Int) ∨ ((i : Int) < (S.length : Int) ∧ (ri.e == 0) = false) := by
        by_cases hlt : i < S.length
        · exact .inr ⟨by omega, by have he : ri.e ≠ 0 := fun h => hgo ⟨hlt, h⟩
                                   simpa using he⟩
        · exact .inl (by omega)
      clear hrf hmf hG ce hgo
      rcases hstop with hs | ⟨hs, hs2⟩
      all_goals
        go_wp2_with fail
        refine (CE.out _).mono ?_
        rintro e w7 ⟨rfl, hb7⟩
        have I7 := I.below hb7
        have R7 : RdU w7 av mi.vec.length cv mi.vec := ⟨Rd.below HR.out.1 hb7, HR.out.2⟩
        have HR7 := Go.Lib.hid R7
        clear R7 hb7 u0 u1 HR CE
        have r2 := I7.r2
        have B7 := I7.bel
        generalize hfin : ri.fin = fi at *
        by_cases hf : fi = 0
        case neg =>
          have heb : (fi != 0) = true := by simpa using hf
          have hq : G = (mm0, fi) := by rw [HG.out, if_pos hf]
          have HQ := Go.Lib.hid hq
          clear hf hq I7
          have R9 := (((((((((((r2.set 0 (.int .i64 0)).set 1 (.int .u64 0)).set 2 (.int .u64 0)).set 3 (.int .i64 0)).set 4 (.int .i64 0)).set 5 (.int .u64 0)).set 6 (.int .u64 0)).set 7 (.int .u64 0)).set 8 (.int .i64 0)).set 9 (.slice none 0 0)).set 10 (.string (ByteArray.mk #[])))
          simp only [List.set] at R9
          have B9 : Below w.heap.size w (((((((((((w7.setCell ⟨w.heap.size, 0, none⟩ (.int .i64 0)).setCell ⟨w.heap.size, 1, none⟩ (.int .u64 0)).setCell ⟨w.heap.size, 2, none⟩ (.int .u64 0)).setCell ⟨w.heap.size, 3, none⟩ (.int .i64 0)).setCell ⟨w.heap.size, 4, none⟩ (.int .i64 0)).setCell ⟨w.heap.size, 5, none⟩ (.int .u64 0)).setCell ⟨w.heap.size, 6, none⟩ (.int .u64 0)).setCell ⟨w.heap.size, 7, none⟩ (.int .u64 0)).setCell ⟨w.heap.size, 8, none⟩ (.int .i64 0)).setCell ⟨w.heap.size, 9, none⟩ (.slice none 0 0)).setCell ⟨w.heap.size, 10, none⟩ (.string (ByteArray.mk #[]))) := (((((((((((B7.setCell (p := ⟨w.heap.size, 0, none⟩) (Nat.le_refl _) (.int .i64 0)).setCell (p := ⟨w.heap.size, 1, none⟩) (Nat.le_refl _) (.int .u64 0)).setCell (p := ⟨w.heap.size, 2, none⟩) (Nat.le_refl _) (.int .u64 0)).setCell (p := ⟨w.heap.size, 3, none⟩) (Nat.le_refl _) (.int .i64 0)).setCell (p := ⟨w.heap.size, 4, none⟩) (Nat.le_refl _) (.int .i64 0)).setCell (p := ⟨w.heap.size, 5, none⟩) (Nat.le_refl _) (.int .u64 0)).setCell (p := ⟨w.heap.size, 6, none⟩) (Nat.le_refl _) (.int .u64 0)).setCell (p := ⟨w.heap.size, 7, none⟩) (Nat.le_refl _) (.int .u64 0)).setCell (p := ⟨w.heap.size, 8, none⟩) (Nat.le_refl _) (.int .i64 0)).setCell (p := ⟨w.heap.size, 9, none⟩) (Nat.le_refl _) (.slice none 0 0)).setCell (p := ⟨w.heap.size, 10, none⟩) (Nat.le_refl _) (.string (ByteArray.mk #[])))
          have HR9 := Go.Lib.hid R9; have HB9 := Go.Lib.hid B9
          clear R9 B9
          have d0 := r2.cell 0 _ rfl
          have f0 := r2.free 0
          have d1 := r2.cell 1 _ rfl
          have f1 := r2.free 1
          have d2 := r2.cell 2 _ rfl
          have f2 := r2.free 2
          have d3 := r2.cell 3 _ rfl
          have f3 := r2.free 3
          have d4 := r2.cell 4 _ rfl
          have f4 := r2.free 4
          have d5 := r2.cell 5 _ rfl
          have f5 := r2.free 5
          have d6 := r2.cell 6 _ rfl
          have f6 := r2.free 6
          have d7 := r2.cell 7 _ rfl
          have f7 := r2.free 7
          have d8 := r2.cell 8 _ rfl
          have f8 := r2.free 8
          have d9 := r2.cell 9 _ rfl
          have f9 := r2.free 9
          have d10 := r2.cell 10 _ rfl
          have f10 := r2.free 10
          go_wp2_with fail
          clear d0 f0 d1 f1 d2 f2 d3 f3 d4 f4 d5 f5 d6 f6 d7 f7 d8 f8 d9 f9 d10 f10
          generalize (((((((((((w7.setCell ⟨w.heap.size, 0, none⟩ (.int .i64 0)).setCell ⟨w.heap.size, 1, none⟩ (.int .u64 0)).setCell ⟨w.heap.size, 2, none⟩ (.int .u64 0)).setCell ⟨w.heap.size, 3, none⟩ (.int .i64 0)).setCell ⟨w.heap.size, 4, none⟩ (.int .i64 0)).setCell ⟨w.heap.size, 5, none⟩ (.int .u64 0)).setCell ⟨w.heap.size, 6, none⟩ (.int .u64 0)).setCell ⟨w.heap.size, 7, none⟩ (.int .u64 0)).setCell ⟨w.heap.size, 8, none⟩ (.int .i64 0)).setCell ⟨w.heap.size, 9, none⟩ (.slice none 0 0)).setCell ⟨w.heap.size, 10, none⟩ (.string (ByteArray.mk #[]))) = w9 at *
          have R9 := HR9.out
          have d0 := R9.cell 0 _ rfl
          have d1 := R9.cell 1 _ rfl
          have d2 := R9.cell 2 _ rfl
          have d3 := R9.cell 3 _ rfl
          have d4 := R9.cell 4 _ rfl
          have d5 := R9.cell 5 _ rfl
          have d6 := R9.cell 6 _ rfl
          have d7 := R9.cell 7 _ rfl
          have d8 := R9.cell 8 _ rfl
          have d9 := R9.cell 9 _ rfl
          have d10 := R9.cell 10 _ rfl
          have hlt9 := R9.lt
          refine bodyPost_ret (v := .tuple #[.agg #[Value.int .i64 0, .int .u64 0, .int .u64 0, .int .i64 0, .int .i64 0, .int .u64 0, .int .u64 0, .int .u64 0, .int .i64 0, .slice none 0 0, .string (ByteArray.mk #[])], .int .i64 fi]) (by simp [results, Tryd.results12, go_sem, d0, d1, d2, d3, d4, d5, d6, d7, d8, d9, d10, hlt9]) rfl ?_
          rw [HQ.out]
          exact ⟨none, 0, rfl, rdU_nil _, HB9.out⟩
        subst hf
        have hq : G = (mi, 0) := by rw [HG.out, if_neg (fun h => h rfl)]
        have HQ := Go.Lib.hid hq
        have r8 := I7.r8
        have hlt7 := I7.lt
        clear hq I7 HG
        have R9 := (((((((((((r2.set 0 (.int .i64 mi.kind)).set 1 (.int .u64 (mi.ballot : Int))).set 2 (.int .u64 (mi.slot : Int))).set 3 (.int .i64 mi.shard)).set 4 (.int .i64 mi.seg)).set 5 (.int .u64 (mi.client : Int))).set 6 (.int .u64 (mi.seq : Int))).set 7 (.int .u64 (mi.pos : Int))).set 8 (.int .i64 mi.code)).set 9 (.slice av mi.vec.length cv)).set 10 (.string (ByteArray.mk mi.body.toArray)))
        simp only [List.set] at R9
        have B9 : Below w.heap.size w (((((((((((w7.setCell ⟨w.heap.size, 0, none⟩ (.int .i64 mi.kind)).setCell ⟨w.heap.size, 1, none⟩ (.int .u64 (mi.ballot : Int))).setCell ⟨w.heap.size, 2, none⟩ (.int .u64 (mi.slot : Int))).setCell ⟨w.heap.size, 3, none⟩ (.int .i64 mi.shard)).setCell ⟨w.heap.size, 4, none⟩ (.int .i64 mi.seg)).setCell ⟨w.heap.size, 5, none⟩ (.int .u64 (mi.client : Int))).setCell ⟨w.heap.size, 6, none⟩ (.int .u64 (mi.seq : Int))).setCell ⟨w.heap.size, 7, none⟩ (.int .u64 (mi.pos : Int))).setCell ⟨w.heap.size, 8, none⟩ (.int .i64 mi.code)).setCell ⟨w.heap.size, 9, none⟩ (.slice av mi.vec.length cv)).setCell ⟨w.heap.size, 10, none⟩ (.string (ByteArray.mk mi.body.toArray))) := (((((((((((B7.setCell (p := ⟨w.heap.size, 0, none⟩) (Nat.le_refl _) (.int .i64 mi.kind)).setCell (p := ⟨w.heap.size, 1, none⟩) (Nat.le_refl _) (.int .u64 (mi.ballot : Int))).setCell (p := ⟨w.heap.size, 2, none⟩) (Nat.le_refl _) (.int .u64 (mi.slot : Int))).setCell (p := ⟨w.heap.size, 3, none⟩) (Nat.le_refl _) (.int .i64 mi.shard)).setCell (p := ⟨w.heap.size, 4, none⟩) (Nat.le_refl _) (.int .i64 mi.seg)).setCell (p := ⟨w.heap.size, 5, none⟩) (Nat.le_refl _) (.int .u64 (mi.client : Int))).setCell (p := ⟨w.heap.size, 6, none⟩) (Nat.le_refl _) (.int .u64 (mi.seq : Int))).setCell (p := ⟨w.heap.size, 7, none⟩) (Nat.le_refl _) (.int .u64 (mi.pos : Int))).setCell (p := ⟨w.heap.size, 8, none⟩) (Nat.le_refl _) (.int .i64 mi.code)).setCell (p := ⟨w.heap.size, 9, none⟩) (Nat.le_refl _) (.slice av mi.vec.length cv)).setCell (p := ⟨w.heap.size, 10, none⟩) (Nat.le_refl _) (.string (ByteArray.mk mi.body.toArray)))
        have K9 : Kp (fun k => k = w.heap.size) w7 (((((((((((w7.setCell ⟨w.heap.size, 0, none⟩ (.int .i64 mi.kind)).setCell ⟨w.heap.size, 1, none⟩ (.int .u64 (mi.ballot : Int))).setCell ⟨w.heap.size, 2, none⟩ (.int .u64 (mi.slot : Int))).setCell ⟨w.heap.size, 3, none⟩ (.int .i64 mi.shard)).setCell ⟨w.heap.size, 4, none⟩ (.int .i64 mi.seg)).setCell ⟨w.heap.size, 5, none⟩ (.int .u64 (mi.client : Int))).setCell ⟨w.heap.size, 6, none⟩ (.int .u64 (mi.seq : Int))).setCell ⟨w.heap.size, 7, none⟩ (.int .u64 (mi.pos : Int))).setCell ⟨w.heap.size, 8, none⟩ (.int .i64 mi.code)).setCell ⟨w.heap.size, 9, none⟩ (.slice av mi.vec.length cv)).setCell ⟨w.heap.size, 10, none⟩ (.string (ByteArray.mk mi.body.toArray))) := ((((((((((((Kp.refl (fun k => k = w.heap.size) w7).setCell (x := ⟨w.heap.size, 0, none⟩) (.inl rfl) (.int .i64 mi.kind)).setCell (x := ⟨w.heap.size, 1, none⟩) (.inl rfl) (.int .u64 (mi.ballot : Int))).setCell (x := ⟨w.heap.size, 2, none⟩) (.inl rfl) (.int .u64 (mi.slot : Int))).setCell (x := ⟨w.heap.size, 3, none⟩) (.inl rfl) (.int .i64 mi.shard)).setCell (x := ⟨w.heap.size, 4, none⟩) (.inl rfl) (.int .i64 mi.seg)).setCell (x := ⟨w.heap.size, 5, none⟩) (.inl rfl) (.int .u64 (mi.client : Int))).setCell (x := ⟨w.heap.size, 6, none⟩) (.inl rfl) (.int .u64 (mi.seq : Int))).setCell (x := ⟨w.heap.size, 7, none⟩) (.inl rfl) (.int .u64 (mi.pos : Int))).setCell (x := ⟨w.heap.size, 8, none⟩) (.inl rfl) (.int .i64 mi.code)).setCell (x := ⟨w.heap.size, 9, none⟩) (.inl rfl) (.slice av mi.vec.length cv)).setCell (x := ⟨w.heap.size, 10, none⟩) (.inl rfl) (.string (ByteArray.mk mi.body.toArray)))
        have R79 := K9.rd HR7.out.1 (fun b o e _ hk => by have := HAV.out b o e; omega)
        have HR9 := Go.Lib.hid R9; have HB9 := Go.Lib.hid B9; have HR79 := Go.Lib.hid R79
        clear R9 B9 K9 R79
        have p0 := r8.cell 0 _ rfl
        have q0 := r8.free 0
        have p1 := r8.cell 1 _ rfl
        have q1 := r8.free 1
        have p2 := r8.cell 2 _ rfl
        have q2 := r8.free 2
        have p3 := r8.cell 3 _ rfl
        have q3 := r8.free 3
        have p4 := r8.cell 4 _ rfl
        have q4 := r8.free 4
        have p5 := r8.cell 5 _ rfl
        have q5 := r8.free 5
        have p6 := r8.cell 6 _ rfl
        have q6 := r8.free 6
        have p7 := r8.cell 7 _ rfl
        have q7 := r8.free 7
        have p8 := r8.cell 8 _ rfl
        have q8 := r8.free 8
        have p9 := r8.cell 9 _ rfl
        have q9 := r8.free 9
        have p10 := r8.cell 10 _ rfl
        have q10 := r8.free 10
        have d0 := r2.cell 0 _ rfl
        have f0 := r2.free 0
        have d1 := r2.cell 1 _ rfl
        have f1 := r2.free 1
        have d2 := r2.cell 2 _ rfl
        have f2 := r2.free 2
        have d3 := r2.cell 3 _ rfl
        have f3 := r2.free 3
        have d4 := r2.cell 4 _ rfl
        have f4 := r2.free 4
        have d5 := r2.cell 5 _ rfl
        have f5 := r2.free 5
        have d6 := r2.cell 6 _ rfl
        have f6 := r2.free 6
        have d7 := r2.cell 7 _ rfl
        have f7 := r2.free 7
        have d8 := r2.cell 8 _ rfl
        have f8 := r2.free 8
        have d9 := r2.cell 9 _ rfl
        have f9 := r2.free 9
        have d10 := r2.cell 10 _ rfl
        have f10 := r2.free 10
        go_wp2_with fail
        clear p0 q0 p1 q1 p2 q2 p3 q3 p4 q4 p5 q5 p6 q6 p7 q7 p8 q8 p9 q9 p10 q10
        clear d0 f0 d1 f1 d2 f2 d3 f3 d4 f4 d5 f5 d6 f6 d7 f7 d8 f8 d9 f9 d10 f10
        generalize (((((((((((w7.setCell ⟨w.heap.size, 0, none⟩ (.int .i64 mi.kind)).setCell ⟨w.heap.size, 1, none⟩ (.int .u64 (mi.ballot : Int))).setCell ⟨w.heap.size, 2, none⟩ (.int .u64 (mi.slot : Int))).setCell ⟨w.heap.size, 3, none⟩ (.int .i64 mi.shard)).setCell ⟨w.heap.size, 4, none⟩ (.int .i64 mi.seg)).setCell ⟨w.heap.size, 5, none⟩ (.int .u64 (mi.client : Int))).setCell ⟨w.heap.size, 6, none⟩ (.int .u64 (mi.seq : Int))).setCell ⟨w.heap.size, 7, none⟩ (.int .u64 (mi.pos : Int))).setCell ⟨w.heap.size, 8, none⟩ (.int .i64 mi.code)).setCell ⟨w.heap.size, 9, none⟩ (.slice av mi.vec.length cv)).setCell ⟨w.heap.size, 10, none⟩ (.string (ByteArray.mk mi.body.toArray))) = w9 at *
        have R9 := HR9.out
        have d0 := R9.cell 0 _ rfl
        have d1 := R9.cell 1 _ rfl
        have d2 := R9.cell 2 _ rfl
        have d3 := R9.cell 3 _ rfl
        have d4 := R9.cell 4 _ rfl
        have d5 := R9.cell 5 _ rfl
        have d6 := R9.cell 6 _ rfl
        have d7 := R9.cell 7 _ rfl
        have d8 := R9.cell 8 _ rfl
        have d9 := R9.cell 9 _ rfl
        have d10 := R9.cell 10 _ rfl
        have hlt9 := R9.lt
        refine bodyPost_ret (v := .tuple #[.agg #[.int .i64 mi.kind, .int .u64 (mi.ballot : Int), .int .u64 (mi.slot : Int), .int .i64 mi.shard, .int .i64 mi.seg, .int .u64 (mi.client : Int), .int .u64 (mi.seq : Int), .int .u64 (mi.pos : Int), .int .i64 mi.code, .slice av mi.vec.length cv, .string (ByteArray.mk mi.body.toArray)], .int .i64 0]) (by simp [results, Tryd.results12, go_sem, d0, d1, d2, d3, d4, d5, d6, d7, d8, d9, d10, hlt9]) rfl ?_
        rw [HQ.out]
        exact ⟨av, cv, rfl, ⟨HR79.out, HR7.out.2⟩, HB9.out⟩
    obtain ⟨hlt, he⟩ := hgo
    have hli : (i : Int) < (S.length : Int) := by omega
    have heb : (ri.e == 0) = true := by simpa using he
    have hiF : i < F.length := by have := HSF.out; omega
    obtain ⟨f, hf⟩ : ∃ f, F[i] = f := ⟨_, rfl⟩
    have hf10 : f < 10 := by rw [← hf]; exact HFF.out _ (List.getElem_mem _)
    have hSi : S[i]'hlt = ltrs.getD f 0 := by
      have : S[i]? = some (ltrs.getD f 0) := by rw [HST.out, List.getElem?_map, List.getElem?_eq_getElem hiF, hf]; rfl
      rw [List.getElem?_eq_getElem hlt] at this
      exact Option.some.inj this
    have htk : F.take (i + 1) = F.take i ++ [f] := by
      rw [List.take_add_one, List.getElem?_eq_getElem hiF, hf]; rfl
    have hfs : readFs (F.take (i + 1)) { mm0 with kind := (kk : Int) } ⟨bd, 0⟩ = readF f mi ri := by
      rw [htk, readFs_app, ← HMI.out he, ← HRI.out]; rfl
    have hlr : ri.b.length ≤ 100000000 := by
      have hnd := HND.out
      rw [HRI.out] at he ⊢
      exact Nat.le_trans (readFs_len _ (fun g hg => HFF.out g (List.mem_of_mem_take hg)) (hnd.sublist (List.take_sublist _ _)) _ bd he) hbd
    have h8f : f = 8 → 8 ∉ F.take i := fun h hm => by
      have hnd := HND.out.sublist (List.take_sublist (i + 1) F)
      rw [htk, List.nodup_append] at hnd
      exact hnd.2.2 8 hm f (List.mem_singleton.2 rfl) h.symm
    have tk := fun W (hR : RdU W av mi.vec.length cv mi.vec) => take_any W mi av cv ri hR hlr f hf10 (fun h => H8.out (h8f h))
    unfold TakeE mVl at tk
    simp only [List.toArray] at tk
    have TK := Go.Lib.hid tk; have HTK := Go.Lib.hid htk; have HFS := Go.Lib.hid hfs
    obtain ⟨L, hL⟩ : ∃ L, ltrs.getD f 0 = L := ⟨_, rfl⟩
    have hgi : ∀ h, (ByteArray.mk S.toArray)[i]'h = L := fun _ => by rw [← hL, ← hSi]; rfl
    rw [hL] at TK
    clear tk htk hfs hlr h8f hSi hf he
    obtain ⟨u0, u1, _⟩ := NB.rw2 I.r9
    go_wp2_with fail
    clear u0 u1
    refine NB.wp_region_t [9, 10] (by kernel_rfl) ?_
    have I1 := I.below (dB wr)
    have R1 : RdU wr.drew av mi.vec.length cv mi.vec := ⟨Rd.below HR.out.1 (dB wr), HR.out.2⟩
    have HR1 := Go.Lib.hid R1
    clear I HR R1
    generalize wr.drew = w1 at *
    have a8 := I1.r8; have a9 := I1.r9
    refine NB.t_r 0 [5, 6, 7, 8, 9, 10] rfl (by kernel_rfl) (by kernel_rfl) (by go_simp) _ (fun w' hw' => NB.run_op_load_agg (off := 0) (m := 11) rfl rfl Tryd.underlying36 rfl _ _ _ a8 (by kernel_rfl) (Nat.le_refl _) _ rfl hw') (fun K hK => ?_); go_simp; refine hK _ ?_; clear hK K
    refine NB.t_r 1 [5, 6, 7, 8, 9, 10] rfl (by kernel_rfl) (by kernel_rfl) (by go_simp) _ (fun w' hw' => NB.run_op_load_agg (off := 0) (m := 2) rfl rfl Tryd.underlying74 rfl _ _ _ a9 (by kernel_rfl) (Nat.le_refl _) _ rfl hw') (fun K hK => ?_); go_simp; refine hK _ ?_; clear hK K
    refine NB.t_p 2 rfl (by kernel_rfl) (fun K hK => ?_); go_simp; refine hK _ ?_; clear hK K
    refine NB.t_p 3 rfl (by kernel_rfl) (fun K hK => ?_); go_simp; refine hK _ ?_; clear hK K
    refine NB.t_p 4 rfl (by kernel_rfl) (fun K hK => ?_); go_simp; refine hK _ ?_; clear hK K
    refine NB.t_e 5 rfl (by kernel_rfl) (by kernel_rfl) (fun K hK => ?_); unfold NB.tmoves; go_simp; refine (TK.out w1 HR1.out).mono ?_; rintro e w2 ⟨m', av', cv', rfl, hR2, hb2, hm2, h82, hf2⟩; refine ⟨_, rfl, hb2, hK _ _ ?_⟩; clear hK K
    have I2 := I1.below hb2
    obtain ⟨RR, hRR⟩ : ∃ RR, (readF f mi ri).1 = RR := ⟨_, rfl⟩
    rw [hRR] at hm2 ⊢
    have hav2 : ∀ j o, av' = some ⟨j, o, none⟩ → g8 + 1 < j := fun j o e => by
      by_cases hf8 : f = 8
      · have h1 := hf2 j o e hf8; have h2 := I1.r9.lt; omega
      · rw [(h82 hf8).1] at e; exact HAV.out j o e
    obtain ⟨I3, K3⟩ := I2.setMall (.int .i64 m'.kind) (.int .u64 (m'.ballot : Int)) (.int .u64 (m'.slot : Int)) (.int .i64 m'.shard) (.int .i64 m'.seg) (.int .u64 (m'.client : Int)) (.int .u64 (m'.seq : Int)) (.int .u64 (m'.pos : Int)) (.int .i64 m'.code) (.slice av' m'.vec.length cv') (.string (ByteArray.mk m'.body.toArray))
    have I4 := (I3.setR 0 (.string (ByteArray.mk RR.b.toArray))).setR 1 (.int .i64 RR.e)
    simp only [List.set] at I4
    have K4 : Kp (fun k => k = g8 ∨ k = g8 + 1) w2 (((((((((((((w2.setCell ⟨g8, 0, none⟩ (.int .i64 m'.kind)).setCell ⟨g8, 1, none⟩ (.int .u64 (m'.ballot : Int))).setCell ⟨g8, 2, none⟩ (.int .u64 (m'.slot : Int))).setCell ⟨g8, 3, none⟩ (.int .i64 m'.shard)).setCell ⟨g8, 4, none⟩ (.int .i64 m'.seg)).setCell ⟨g8, 5, none⟩ (.int .u64 (m'.client : Int))).setCell ⟨g8, 6, none⟩ (.int .u64 (m'.seq : Int))).setCell ⟨g8, 7, none⟩ (.int .u64 (m'.pos : Int))).setCell ⟨g8, 8, none⟩ (.int .i64 m'.code)).setCell ⟨g8, 9, none⟩ (.slice av' m'.vec.length cv')).setCell ⟨g8, 10, none⟩ (.string (ByteArray.mk m'.body.toArray))).setCell ⟨g8 + 1, 0, none⟩ (.string (ByteArray.mk RR.b.toArray))).setCell ⟨g8 + 1, 1, none⟩ (.int .i64 RR.e)) := (K3.setCell (x := ⟨g8 + 1, 0, none⟩) (.inl (.inr rfl)) (.string (ByteArray.mk RR.b.toArray))).setCell (x := ⟨g8 + 1, 1, none⟩) (.inl (.inr rfl)) (.int .i64 RR.e)
    have R4 := K4.rd hR2.1 (fun b o e _ hk => by have := hav2 b o e; omega)
    have R5 : RdU _ av' m'.vec.length cv' m'.vec := ⟨R4, hR2.2⟩
    have HI3 := Go.Lib.hid I3; have HI4 := Go.Lib.hid I4; have HR5 := Go.Lib.hid R5; have HAV2 := Go.Lib.hid hav2; have HM2 := Go.Lib.hid hm2; have H82 := Go.Lib.hid h82; have HRR := Go.Lib.hid hRR
    clear I3 I4 K3 K4 R4 R5 hav2 hm2 h82 hf2 hRR I1 hb2 hR2 a8 a9
    refine NB.t_p 6 rfl (by kernel_rfl) (fun K hK => ?_); go_simp; refine hK _ ?_; clear hK K
    refine NB.t_p 7 rfl (by kernel_rfl) (fun K hK => ?_); go_simp; refine hK _ ?_; clear hK K
    refine NB.t_p 8 rfl (by kernel_rfl) (fun K hK => ?_); go_simp; refine hK _ ?_; clear hK K
    have p0 := I2.r8.cell 0 _ rfl
    have q0 := I2.r8.free 0
    have p1 := I2.r8.cell 1 _ rfl
    have q1 := I2.r8.free 1
    have p2 := I2.r8.cell 2 _ rfl
    have q2 := I2.r8.free 2
    have p3 := I2.r8.cell 3 _ rfl
    have q3 := I2.r8.free 3
    have p4 := I2.r8.cell 4 _ rfl
    have q4 := I2.r8.free 4
    have p5 := I2.r8.cell 5 _ rfl
    have q5 := I2.r8.free 5
    have p6 := I2.r8.cell 6 _ rfl
    have q6 := I2.r8.free 6
    have p7 := I2.r8.cell 7 _ rfl
    have q7 := I2.r8.free 7
    have p8 := I2.r8.cell 8 _ rfl
    have q8 := I2.r8.free 8
    have p9 := I2.r8.cell 9 _ rfl
    have q9 := I2.r8.free 9
    have p10 := I2.r8.cell 10 _ rfl
    have q10 := I2.r8.free 10
    refine NB.t_w 9 rfl (by kernel_rfl) (by kernel_rfl) rfl (fun Q' hK => ?_)
    go_wp2
    clear p0 q0 p1 q1 p2 q2 p3 q3 p4 q4 p5 q5 p6 q6 p7 q7 p8 q8 p9 q9 p10 q10
    generalize (((((((((((w2.setCell ⟨g8, 0, none⟩ (.int .i64 m'.kind)).setCell ⟨g8, 1, none⟩ (.int .u64 (m'.ballot : Int))).setCell ⟨g8, 2, none⟩ (.int .u64 (m'.slot : Int))).setCell ⟨g8, 3, none⟩ (.int .i64 m'.shard)).setCell ⟨g8, 4, none⟩ (.int .i64 m'.seg)).setCell ⟨g8, 5, none⟩ (.int .u64 (m'.client : Int))).setCell ⟨g8, 6, none⟩ (.int .u64 (m'.seq : Int))).setCell ⟨g8, 7, none⟩ (.int .u64 (m'.pos : Int))).setCell ⟨g8, 8, none⟩ (.int .i64 m'.code)).setCell ⟨g8, 9, none⟩ (.slice av' m'.vec.length cv')).setCell ⟨g8, 10, none⟩ (.string (ByteArray.mk m'.body.toArray))) = w4 at *
    obtain ⟨c0, c1, f0, f1⟩ := NB.rw2 HI3.out.r9
    refine NB.t_w 10 rfl (by kernel_rfl) (by kernel_rfl) rfl (fun Q' hK => ?_)
    go_wp2
    clear c0 c1 f0 f1
    refine NB.t_end (by kernel_rfl) ?_
    go_wp2_with fail
    refine ⟨⟨i + 1, m', RR, av', cv', by omega, by simp, HI4.out, HR5.out, HAV2.out, ?_, ?_, ?_⟩, by simp [intOf]; omega⟩
    · intro h8'
      rw [HTK.out] at h8'
      have hf8 : f ≠ 8 := fun h => h8' (List.mem_append.2 (.inr (List.mem_singleton.2 h.symm)))
      obtain ⟨h1, h2, h3⟩ := H82.out hf8
      obtain ⟨h4, h5, h6⟩ := H8.out (fun h => h8' (List.mem_append.2 (.inl h)))
      exact ⟨h1.trans h4, h2.trans h5, h3.trans h6⟩
    · rw [HFS.out, HRR.out]
    · intro h
      rw [HFS.out]
      exact HM2.out h
end Go.Proofs.YtadgokegjmigoaaDoor
