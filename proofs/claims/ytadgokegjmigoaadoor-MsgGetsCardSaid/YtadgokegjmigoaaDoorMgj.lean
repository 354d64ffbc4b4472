/- A message is got: walked. -/
import Derived.Test.YtadgokegjmigoaaDoorMgi
namespace Go.Proofs.YtadgokegjmigoaaDoor
open Go.RowKit Go.Shelf
open Go.NB (Rd Kp Stp Off Dis oneB dB Rw RdU Lp Rr encU encB)
attribute [local go_sem] Oper.semAt_some

/-- What getting leaves. -/
def GotE (w : World) (r : Mm × Int) (e : Ending) (w' : World) : Prop :=
  ∃ av cv ab cb, e = .returned (.tuple #[.agg (msgV r.1 av cv ab cb).toArray, .int .i64 r.2]) ∧ MsgR w' r.1 av cv ab cb ∧ Below w.heap.size w w' ∧ (∀ j o, av = some ⟨j, o, none⟩ → w.heap.size ≤ j) ∧ (∀ j o, ab = some ⟨j, o, none⟩ → w.heap.size ≤ j)

theorem set_msg {W : World} {q : Nat} {m : Mm} {av : Option Addr} {cv : Nat} {ab : Option Addr} {cb : Nat} {t : TypeId} (h : Rw W q (msgV m av cv ab cb) t) (v0 v1 v2 v3 v4 v5 v6 v7 v8 v9 v10 : Value) :
    Rw (((((((((((W.setCell ⟨q, 0, none⟩ v0).setCell ⟨q, 1, none⟩ v1).setCell ⟨q, 2, none⟩ v2).setCell ⟨q, 3, none⟩ v3).setCell ⟨q, 4, none⟩ v4).setCell ⟨q, 5, none⟩ v5).setCell ⟨q, 6, none⟩ v6).setCell ⟨q, 7, none⟩ v7).setCell ⟨q, 8, none⟩ v8).setCell ⟨q, 9, none⟩ v9).setCell ⟨q, 10, none⟩ v10) q [v0, v1, v2, v3, v4, v5, v6, v7, v8, v9, v10] t ∧ Kp (fun k => k = q) W (((((((((((W.setCell ⟨q, 0, none⟩ v0).setCell ⟨q, 1, none⟩ v1).setCell ⟨q, 2, none⟩ v2).setCell ⟨q, 3, none⟩ v3).setCell ⟨q, 4, none⟩ v4).setCell ⟨q, 5, none⟩ v5).setCell ⟨q, 6, none⟩ v6).setCell ⟨q, 7, none⟩ v7).setCell ⟨q, 8, none⟩ v8).setCell ⟨q, 9, none⟩ v9).setCell ⟨q, 10, none⟩ v10) := ⟨(((((((((((h.set 0 v0).set 1 v1).set 2 v2).set 3 v3).set 4 v4).set 5 v5).set 6 v6).set 7 v7).set 8 v8).set 9 v9).set 10 v10), ((((((((((((Kp.refl (fun k => k = q) W).setCell (x := ⟨q, 0, none⟩) (.inl rfl) v0).setCell (x := ⟨q, 1, none⟩) (.inl rfl) v1).setCell (x := ⟨q, 2, none⟩) (.inl rfl) v2).setCell (x := ⟨q, 3, none⟩) (.inl rfl) v3).setCell (x := ⟨q, 4, none⟩) (.inl rfl) v4).setCell (x := ⟨q, 5, none⟩) (.inl rfl) v5).setCell (x := ⟨q, 6, none⟩) (.inl rfl) v6).setCell (x := ⟨q, 7, none⟩) (.inl rfl) v7).setCell (x := ⟨q, 8, none⟩) (.inl rfl) v8).setCell (x := ⟨q, 9, none⟩) (.inl rfl) v9).setCell (x := ⟨q, 10, none⟩) (.inl rfl) v10)⟩
theorem GA.gf {bm lo : Nat} {m : Mm} {W : World} (h : GA bm m W) : GF bm lo m W := ⟨none, 0, none, 0, h.1, msgR_nil h.2.1 h.2.2, (fun _ _ e => nomatch e), (fun _ _ e => nomatch e)⟩

theorem got_end {w W : World} {r2 r3 lo : Nat} (c2 : Rw W r2 (msgV mm0 none 0 none 0) 32) (c3 : Rw W r3 [.int .i64 0] 24) (bel : Below w.heap.size w W) (h2 : w.heap.size ≤ r2) (h23 : r2 < r3) (h3 : r3 < lo) (m : Mm) (av : Option Addr) (cv : Nat) (ab : Option Addr) (cb : Nat) (R : MsgR W m av cv ab cb)
    (hv : ∀ j o, av = some ⟨j, o, none⟩ → lo + 2 ≤ j) (hb : ∀ j o, ab = some ⟨j, o, none⟩ → lo + 2 ≤ j) (hd : W.heap[lo]? = some (.deferred (some []))) (e : Int) :
    ∃ Y, ((((((((((((W.setCell ⟨r2, 0, none⟩ (.int .i64 m.kind)).setCell ⟨r2, 1, none⟩ (.int .u64 (m.ballot : Int))).setCell ⟨r2, 2, none⟩ (.int .u64 (m.slot : Int))).setCell ⟨r2, 3, none⟩ (.int .i64 m.shard)).setCell ⟨r2, 4, none⟩ (.int .i64 m.seg)).setCell ⟨r2, 5, none⟩ (.int .u64 (m.client : Int))).setCell ⟨r2, 6, none⟩ (.int .u64 (m.seq : Int))).setCell ⟨r2, 7, none⟩ (.int .u64 (m.pos : Int))).setCell ⟨r2, 8, none⟩ (.int .i64 m.code)).setCell ⟨r2, 9, none⟩ (.slice av m.vec.length cv)).setCell ⟨r2, 10, none⟩ (.slice ab m.body.length cb))).setCell ⟨r3, 0, none⟩ (.int .i64 e) = Y ∧ Y.heap[lo]? = some (.deferred (some [])) ∧ Rw (Y.putObj lo (.deferred none)) r2 (msgV m av cv ab cb) 32 ∧ Rw (Y.putObj lo (.deferred none)) r3 [.int .i64 e] 24 ∧
      GotE w (m, e) (.returned (.tuple #[.agg (msgV m av cv ab cb).toArray, .int .i64 e])) (Y.putObj lo (.deferred none)) := by
  have c2' := c2
  unfold msgV mm0 at c2'
  simp only [List.length_nil] at c2'
  obtain ⟨z1, z2⟩ := set_msg (m := mm0) (av := none) (cv := 0) (ab := none) (cb := 0) c2' (.int .i64 m.kind) (.int .u64 (m.ballot : Int)) (.int .u64 (m.slot : Int)) (.int .i64 m.shard) (.int .i64 m.seg) (.int .u64 (m.client : Int)) (.int .u64 (m.seq : Int)) (.int .u64 (m.pos : Int)) (.int .i64 m.code) (.slice av m.vec.length cv) (.slice ab m.body.length cb)
  refine ⟨_, rfl, ?_⟩
  generalize (((((((((((W.setCell ⟨r2, 0, none⟩ (.int .i64 m.kind)).setCell ⟨r2, 1, none⟩ (.int .u64 (m.ballot : Int))).setCell ⟨r2, 2, none⟩ (.int .u64 (m.slot : Int))).setCell ⟨r2, 3, none⟩ (.int .i64 m.shard)).setCell ⟨r2, 4, none⟩ (.int .i64 m.seg)).setCell ⟨r2, 5, none⟩ (.int .u64 (m.client : Int))).setCell ⟨r2, 6, none⟩ (.int .u64 (m.seq : Int))).setCell ⟨r2, 7, none⟩ (.int .u64 (m.pos : Int))).setCell ⟨r2, 8, none⟩ (.int .i64 m.code)).setCell ⟨r2, 9, none⟩ (.slice av m.vec.length cv)).setCell ⟨r2, 10, none⟩ (.slice ab m.body.length cb)) = Z at z1 z2 ⊢
  have K1 : Kp (fun k => k = r2 ∨ k = r3) W (Z.setCell ⟨r3, 0, none⟩ (.int .i64 e)) := (z2.imp (fun j h => .inl h)).setCell (x := ⟨r3, 0, none⟩) (.inl (.inr rfl)) _
  have C2 := Rw.keep z1 ((Kp.refl (fun k => k = r3) Z).setCell (x := ⟨r3, 0, none⟩) (.inl rfl) (.int .i64 e)) (by omega)
  have C3 : Rw (Z.setCell ⟨r3, 0, none⟩ (.int .i64 e)) r3 [.int .i64 e] 24 := (c3.keep z2 (by omega)).set 0 (.int .i64 e)
  generalize Z.setCell ⟨r3, 0, none⟩ (.int .i64 e) = Y at K1 C2 C3 ⊢
  have hd2 : Y.heap[lo]? = some (.deferred (some [])) := (K1.block _ (Array.getElem?_eq_some_iff.1 hd).1 (by omega)).trans hd
  have hk := NB.kp_put Y lo (.deferred none)
  have K2 : Kp (fun k => k = r2 ∨ k = r3 ∨ k = lo) W (Y.putObj lo (.deferred none)) := (K1.imp (G := fun k => k = r2 ∨ k = r3 ∨ k = lo) (fun j h => by omega)).trans (hk.imp (G := fun k => k = r2 ∨ k = r3 ∨ k = lo) (fun j h => by omega)) (fun i h => .inl h)
  refine ⟨hd2, C2.keep hk (by omega), C3.keep hk (by omega), av, cv, ab, cb, rfl, ⟨⟨K2.rd R.vec.1 (fun b o e _ hh => by have := hv b o e; omega), R.vec.2⟩, K2.rdB R.body (fun b o e _ hh => by have := hb b o e; omega)⟩, bel.trans (K2.belowB bel.size (by rintro j (rfl | rfl | rfl) <;> omega)), fun j o e => by have := hv j o e; omega, fun j o e => by have := hb j o e; omega⟩

set_option maxRecDepth 100000 in
set_option maxHeartbeats 4000000 in
theorem mget_main (w : World) (hT : Tb w) (a : Option Addr) (n c : Nat) (b : List UInt8) (hr : NB.RdB w a n c b) (hl : n ≤ 100000000) (kb : UInt8) (bd : List UInt8) (nn : Nat) (hg : fgetM b = ((kb, bd), nn, 0)) (hn : ¬ nn < n) (hk : known (kb.toNat : Int) = true) (hbd : bd.length ≤ 100000000) :
    Calls Tryd.prog 11 #[.slice a n c] w (GotE w (mgetM b)) := by
  have hsz := NB.RdB.size hr
  have hbn := Rd.bound hr
  have hmg : mgetM b = if (readFs (flds kb.toNat) { mm0 with kind := (kb.toNat : Int) } ⟨bd, 0⟩).1.fin ≠ 0 then (mm0, (readFs (flds kb.toNat) { mm0 with kind := (kb.toNat : Int) } ⟨bd, 0⟩).1.fin) else ((readFs (flds kb.toNat) { mm0 with kind := (kb.toNat : Int) } ⟨bd, 0⟩).2, 0) := by
    unfold mgetM
    rw [hg]
    simp only
    rw [if_neg (by simp), if_neg (by rw [hk]; simp; omega)]
  obtain ⟨hk1, hk2⟩ := known_iff.1 hk
  obtain ⟨kk, hkk⟩ : ∃ kk, kb.toNat = kk := ⟨_, rfl⟩
  rw [hkk] at hmg hk hk1 hk2
  have hk19 : kk < 19 := by omega
  rw [← rdI_all kk bd hk19] at hmg
  have HMG := Go.Lib.hid hmg
  clear hmg
  have A1 := NB.rw_new w (msgV mm0 none 0 none 0) 32 rfl
  have b1 := oneB w (.cells (msgV mm0 none 0 none 0).toArray 32)
  have A2 := A1.below (oneB _ (.cells #[.int .i64 0] 24))
  have C2 : Rw ((w.alloc (.cells (msgV mm0 none 0 none 0).toArray 32)).alloc (.cells #[.int .i64 0] 24)) (w.heap.size + 1) [.int .i64 0] 24 := NB.rw_new _ [.int .i64 0] _ (by simp)
  have b2 : Below w.heap.size w ((w.alloc (.cells (msgV mm0 none 0 none 0).toArray 32)).alloc (.cells #[.int .i64 0] 24)) := b1.alloc b1.size _
  have hs2 : ((w.alloc (.cells (msgV mm0 none 0 none 0).toArray 32)).alloc (.cells #[.int .i64 0] 24)).heap.size = w.heap.size + 2 := by simp
  have hfg := fget_any ((w.alloc (.cells (msgV mm0 none 0 none 0).toArray 32)).alloc (.cells #[.int .i64 0] 24)) a n c b (hr.below b2) hl
  rw [hg] at hfg
  unfold GetE at hfg
  simp only at hfg
  rw [hkk] at hfg
  have HFG := Go.Lib.hid hfg
  clear hfg A1 b1 hg
  refine (callsIn_wide (n := 6)).1 ?_
  refine callsIn_of_wp_marks Tryd.func11 rfl trivial ?_ rfl
  simp only [Tryd.ntmps11, List.size_toArray, List.length_cons, List.length_nil, Nat.reduceAdd, Nat.reduceSub, Array.replicate_succ, Array.replicate_zero, List.push_toArray, List.append_toArray, List.nil_append, List.cons_append]
  unfold msgV mm0 at A2 C2 b2 hs2 HFG
  simp only [List.toArray, List.length_nil] at A2 C2 b2 hs2 HFG
  have hnn : ¬ (nn : Int) < (n : Int) := by omega
  gi_wp2_with fail
  refine ⟨trivial, (callsIn_wide.2 HFG.out).mono ?_⟩
  rintro e w1 ⟨a1, n1, c1, rfl, hr1, hb1, hf1⟩
  have A3 := A2.below hb1
  have C3 := C2.below hb1
  have B3 := NB.bel b2 hb1 b2.size
  have hs3 := hb1.size
  rw [hs2] at hs3
  have hn1 := NB.RdB.size hr1
  clear A2 C2 b2 hs2 HFG hb1
  have X4 : Below w1.heap.size w1 (w1.alloc (.cells #[.int .u8 (kk : Int), .slice a1 n1 c1] 50)) := oneB w1 _
  have F4 : Rw (w1.alloc (.cells #[.int .u8 (kk : Int), .slice a1 n1 c1] 50)) w1.heap.size [.int .u8 (kk : Int), .slice a1 n1 c1] 50 := NB.rw_new w1 [.int .u8 (kk : Int), .slice a1 n1 c1] _ rfl
  have A4 := A3.below X4
  have C4 := C3.below X4
  have B4 := NB.bel B3 X4 B3.size
  have R4 := Rd.below hr1 X4
  have hs4 : (w1.alloc (.cells #[.int .u8 (kk : Int), .slice a1 n1 c1] 50)).heap.size = w1.heap.size + 1 := by simp
  have g0 := F4.cell 0 _ rfl
  gi_wp2_with fail
  refine ⟨trivial, (callsIn_wide.2 (known_any _ _)).mono ?_⟩
  rw [hk]
  rintro e w' ⟨rfl, e2⟩
  subst w'
  generalize w1.alloc (.cells #[.int .u8 (kk : Int), .slice a1 n1 c1] 50) = w2 at *
  have g1 := F4.cell 1 _ rfl
  clear A3 C3 B3 hr1 X4
  have X5 := oneB w2 (.cells (msgV { mm0 with kind := (kk : Int) } none 0 none 0).toArray 32)
  have M5 : Rw (w2.alloc (.cells (msgV { mm0 with kind := (kk : Int) } none 0 none 0).toArray 32)) w2.heap.size (msgV { mm0 with kind := (kk : Int) } none 0 none 0) 32 := NB.rw_new w2 _ _ rfl
  have F5 := F4.below X5
  have A5 := A4.below X5
  have C5 := C4.below X5
  have B5 := NB.bel B4 X5 B4.size
  have R5 := Rd.below R4 X5
  have hs5 : (w2.alloc (.cells (msgV { mm0 with kind := (kk : Int) } none 0 none 0).toArray 32)).heap.size = w1.heap.size + 2 := by simp [hs4]
  have g5 := F5.cell 1 _ rfl
  clear A4 C4 B4 R4 F4 X5
  unfold msgV mm0 at M5 F5 A5 C5 B5 R5 hs5 g5
  simp only [List.toArray, List.length_nil] at M5 F5 A5 C5 B5 R5 hs5 g5
  gi_wp2_with fail
  refine ⟨trivial, (callsIn_wide.2 (rnew_any _ a1 n1 c1 bd R5 (by omega))).mono ?_⟩
  rintro e w4 ⟨pr, F, rfl, hr4, hb4⟩
  have hs6 := hb4.size
  rw [hs5] at hs6 hr4
  rw [hs4] at M5
  have M6 := M5.below hb4
  have A6 := A5.below hb4
  have C6 := C5.below hb4
  have B6 := NB.bel B5 hb4 B5.size
  clear M5 F5 A5 C5 B5 R5 hs5 g5 hb4
  have hF4 : ∀ j, F j → w1.heap.size + 2 ≤ j ∧ j < w4.heap.size := fun j hj => hr4.foot j hj
  have X7 := oneB w4 (.cells #[.pointer (some ⟨pr, 0, none⟩)] 61)
  have P7 : Rw (w4.alloc (.cells #[.pointer (some ⟨pr, 0, none⟩)] 61)) w4.heap.size [.pointer (some ⟨pr, 0, none⟩)] 61 := NB.rw_new w4 [.pointer (some ⟨pr, 0, none⟩)] _ rfl
  have M7 := M6.below X7
  have A7 := A6.below X7
  have C7 := C6.below X7
  have B7 := NB.bel B6 X7 B6.size
  have hr7 := hr4.below X7
  have hs7 : (w4.alloc (.cells #[.pointer (some ⟨pr, 0, none⟩)] 61)).heap.size = w4.heap.size + 1 := by simp
  have m0 := M7.cell 0 _ rfl
  clear M6 A6 C6 B6 hr4 X7
  gi_wp2_with fail
  refine ⟨trivial, (callsIn_wide.2 (each_any _ _)).mono ?_⟩
  rintro e w' ⟨rfl, e2⟩
  subst w'
  generalize w4.alloc (.cells #[.pointer (some ⟨pr, 0, none⟩)] 61) = w5 at *
  have X8 := oneB w5 (.cells #[.int .i64 (kk : Int)] 3)
  have K8 : Rw (w5.alloc (.cells #[.int .i64 (kk : Int)] 3)) w5.heap.size [.int .i64 (kk : Int)] 3 := NB.rw_new w5 [.int .i64 (kk : Int)] _ rfl
  have M8 := M7.below X8
  have A8 := A7.below X8
  have C8 := C7.below X8
  have P8 := P7.below X8
  have B8 := NB.bel B7 X8 B7.size
  have hr8 := hr7.below X8
  have hs8 : (w5.alloc (.cells #[.int .i64 (kk : Int)] 3)).heap.size = w4.heap.size + 2 := by simp [hs7]
  rw [hs7] at K8
  simp only [hs7]
  clear M7 A7 C7 P7 B7 hr7 X8 m0
  generalize w5.alloc (.cells #[.int .i64 (kk : Int)] 3) = w6 at *
  have HS8 := Go.Lib.hid hs8
  have hle8 : w4.heap.size + 1 < w6.heap.size := by omega
  clear hs8
  gi_wp2_with fail
  have hent := enters_of Tryd.func50 (by kernel_rfl) rfl
  obtain ⟨E, hE⟩ : ∃ E, (rdI kk bd 10).1.e = E := ⟨_, rfl⟩
  refine NB.range_quit rfl (by omega) (gf := 50) (lb := #[.pointer (some ⟨w4.heap.size + 1, 0, none⟩)]) rfl trivial hent
    (fun W' => E = 0 ∧ GS w pr (w1.heap.size + 2) (w1.heap.size + 1) w.heap.size (w.heap.size + 1) (w4.heap.size + 1) w4.heap.size w6.heap.size (kk : Int) (rdI kk bd 10).1 W' ∧ GF (w1.heap.size + 1) w6.heap.size (rdI kk bd 10).2 W')
    (fun W' => E ≠ 0 ∧ Rw W' w.heap.size (msgV mm0 none 0 none 0) 32 ∧ Rw W' (w.heap.size + 1) [.int .i64 E] 24 ∧ Below w.heap.size w W' ∧ w6.heap.size + 1 < W'.heap.size) ?hit ?hdone ?hstop
  case hit =>
    intro fn hfn L W1 hB1 hb1 hsz1
    have G1 : GS w pr (w1.heap.size + 2) (w1.heap.size + 1) w.heap.size (w.heap.size + 1) (w4.heap.size + 1) w4.heap.size w6.heap.size (kk : Int) ⟨bd, 0⟩ W1 :=
      ⟨⟨F, hr8.below hb1, fun j hj => by have := hF4 j hj; omega⟩, A8.below hb1, C8.below hb1, K8.below hb1, P8.below hb1, NB.bel B8 hb1 B8.size, by omega, by omega⟩
    have GA1 : GA (w1.heap.size + 1) { mm0 with kind := (kk : Int) } W1 := ⟨M8.below hb1, rfl, rfl⟩
    refine (each1_in _ (by omega) (w6.heap.size + 1) (w4.heap.size + 1) kk hk19 (fun i W => NB.Bk L .ready W ∧ GS w pr (w1.heap.size + 2) (w1.heap.size + 1) w.heap.size (w.heap.size + 1) (w4.heap.size + 1) w4.heap.size w6.heap.size (kk : Int) (rdI kk bd i).1 W ∧ (rdI kk bd i).1.e = 0 ∧ (GA (w1.heap.size + 1) (rdI kk bd i).2 W ∨ (GF (w1.heap.size + 1) w6.heap.size (rdI kk bd i).2 W ∧ ∀ f, i ≤ f → f < 10 → (flds kk).contains f = false)))
      (fun W' => NB.Bq L W' ∧ E ≠ 0 ∧ Rw W' w.heap.size (msgV mm0 none 0 none 0) 32 ∧ Rw W' (w.heap.size + 1) [.int .i64 E] 24 ∧ Below w.heap.size w W' ∧ w6.heap.size + 1 < W'.heap.size) ?_ ?_ ?_ W1 ⟨hB1, G1, rfl, .inl GA1⟩).mono ?_
    · intro i W h
      exact ⟨h.2.1.kb.cell 0 _ rfl, hT.grow h.2.1.bel⟩
    · intro i W h hcn
      rw [rdI_no kk bd i hcn]
      exact ⟨h.1, h.2.1, h.2.2.1, h.2.2.2.imp id fun h1 => ⟨h1.1, fun f h2 h3 => h1.2 f (by omega) h3⟩⟩
    · intro i W hi h hcn
      obtain ⟨hBk, hG, he0, hA | ⟨_, hno⟩⟩ := h
      case inr => rw [hno i (Nat.le_refl _) hi] at hcn; cases hcn
      have hlen := rdI_len kk bd i (by omega) he0
      have hy := rdI_yes kk bd i hcn
      have hst := rdI_stick kk bd (i + 1)
      have hnext : ∀ f, 8 ≤ i → i + 1 ≤ f → f < 10 → (flds kk).contains f = false := fun f h1 h2 h3 => by
        obtain rfl : f = 9 := by omega
        obtain rfl : i = 8 := by omega
        exact flds_last kk hk19 hcn
      refine (NB.yield_quit L hfn rfl hBk (R := fun W' => GS w pr (w1.heap.size + 2) (w1.heap.size + 1) w.heap.size (w.heap.size + 1) (w4.heap.size + 1) w4.heap.size w6.heap.size (kk : Int) (rdI kk bd (i + 1)).1 W' ∧ (rdI kk bd (i + 1)).1.e = 0 ∧ (GA (w1.heap.size + 1) (rdI kk bd (i + 1)).2 W' ∨ (GF (w1.heap.size + 1) w6.heap.size (rdI kk bd (i + 1)).2 W' ∧ ∀ f, i + 1 ≤ f → f < 10 → (flds kk).contains f = false)))
        (Rx := fun W' => E ≠ 0 ∧ Rw W' w.heap.size (msgV mm0 none 0 none 0) 32 ∧ Rw W' (w.heap.size + 1) [.int .i64 E] 24 ∧ Below w.heap.size w W' ∧ w6.heap.size + 1 < W'.heap.size) ?_).mono (fun e W' h => h.imp (fun h => ⟨h.1, h.2.1, h.2.2⟩) (fun h => ⟨h.1, h.2.1, h.2.2⟩))
      have hB2 := hBk.turn .busy
      have hG2 := hG.loop (.loop (L.at_ .busy none))
      have hA2 := hA.loop (lo := w6.heap.size) (by omega) (.loop (L.at_ .busy none))
      rw [hy] at hst ⊢
      obtain ⟨r, m, hrm⟩ : ∃ r m, rdI kk bd i = (r, m) := ⟨_, _, rfl⟩
      rw [hrm] at hst hG2 hA2 hlen ⊢
      simp only at hst hG2 hA2 hlen ⊢
      have HBK := Go.Lib.hid hBk
      have HST := Go.Lib.hid hst
      have HNX := Go.Lib.hid hnext
      clear hst hnext hy hrm hBk hG hA he0 hcn hB1 hb1 G1 GA1 hr8 A8 C8 K8 P8 B8 M8
      gi_wp2_with fail
      refine ⟨HBK.out, ?_⟩
      clear HBK
      obtain ⟨W2, hW2⟩ : ∃ W2, W.putObj (w6.heap.size + 1) (.loop (L.at_ .busy none)) = W2 := ⟨_, rfl⟩
      rw [hW2] at hB2 hG2 hA2 ⊢
      clear hW2
      have cp := hG2.ptr.cell 0 _ rfl
      have hlt2 := hG2.lt
      gi_wp2_with fail
      refine ⟨trivial, (CallsIn.inRound _ (callsIn_wide.2 (field_any w W2 pr (w1.heap.size + 2) (w1.heap.size + 1) w.heap.size (w.heap.size + 1) (w4.heap.size + 1) w4.heap.size w6.heap.size (kk : Int) m r hG2 hA2 (by omega) i hi _ rfl))).mono ?_⟩
      rintro e W3 ⟨rfl, hk3, hc2, hc3, hbl, hsz3, hok⟩
      have hB3 := hB2.kp hk3 (fun h => h.1 rfl) (fun h => h.2 rfl)
      by_cases he : (readF i m r).1.e = 0
      · obtain ⟨k1, k2, k3⟩ := hok he
        have FIN : GS w pr (w1.heap.size + 2) (w1.heap.size + 1) w.heap.size (w.heap.size + 1) (w4.heap.size + 1) w4.heap.size w6.heap.size (kk : Int) (readF i m r).1 (W3.putObj (w6.heap.size + 1) (.loop (L.at_ .ready none))) ∧ (readF i m r).1.e = 0 ∧ (GA (w1.heap.size + 1) (readF i m r).2 (W3.putObj (w6.heap.size + 1) (.loop (L.at_ .ready none))) ∨ (GF (w1.heap.size + 1) w6.heap.size (readF i m r).2 (W3.putObj (w6.heap.size + 1) (.loop (L.at_ .ready none))) ∧ ∀ f, i + 1 ≤ f → f < 10 → (flds kk).contains f = false)) := by
          refine ⟨k1.loop _, he, ?_⟩
          by_cases h8 : i < 8
          · exact .inl ((k3 h8).loop (by omega) _)
          · exact .inr ⟨k2.put (by omega) _ (by omega) (by omega) _, fun f => HNX.out f (by omega)⟩
        have HF := Go.Lib.hid FIN
        clear FIN k1 k2 k3 hok
        gi_wp2_with fail
        first | simpa [he] using HF.out | exact ⟨hB3, HF.out⟩
      · have hE2 : (readF i m r).1.e = E := by
          have h1 := HST.out he (9 - i)
          rw [show i + 1 + (9 - i) = 10 by omega] at h1
          rw [← hE, h1]
        rw [hE2] at he
        have heb : (E != 0) = true := by simpa using he
        rw [hE2]
        unfold msgV mm0 at hc2
        simp only [List.length_nil] at hc2
        obtain ⟨hz2, hkz⟩ := set_msg (m := mm0) (av := none) (cv := 0) (ab := none) (cb := 0) hc2 (.int .i64 0) (.int .u64 0) (.int .u64 0) (.int .i64 0) (.int .i64 0) (.int .u64 0) (.int .u64 0) (.int .u64 0) (.int .i64 0) (.slice none 0 0) (.slice none 0 0)
        have d0 := hc2.cell 0 _ rfl
        have g0 := hc2.free 0
        have d1 := hc2.cell 1 _ rfl
        have g1 := hc2.free 1
        have d2 := hc2.cell 2 _ rfl
        have g2 := hc2.free 2
        have d3 := hc2.cell 3 _ rfl
        have g3 := hc2.free 3
        have d4 := hc2.cell 4 _ rfl
        have g4 := hc2.free 4
        have d5 := hc2.cell 5 _ rfl
        have g5 := hc2.free 5
        have d6 := hc2.cell 6 _ rfl
        have g6 := hc2.free 6
        have d7 := hc2.cell 7 _ rfl
        have g7 := hc2.free 7
        have d8 := hc2.cell 8 _ rfl
        have g8 := hc2.free 8
        have d9 := hc2.cell 9 _ rfl
        have g9 := hc2.free 9
        have d10 := hc2.cell 10 _ rfl
        have g10 := hc2.free 10
        have hc3' := hc3.keep hkz (by omega)
        have e0 := hc3'.cell 0 _ rfl
        have q0 := hc3'.free 0
        clear hok
        have hz2c := hz2
        have hkzc := hkz
        generalize hZ : (((((((((((W3.setCell ⟨w.heap.size, 0, none⟩ (.int .i64 0)).setCell ⟨w.heap.size, 1, none⟩ (.int .u64 0)).setCell ⟨w.heap.size, 2, none⟩ (.int .u64 0)).setCell ⟨w.heap.size, 3, none⟩ (.int .i64 0)).setCell ⟨w.heap.size, 4, none⟩ (.int .i64 0)).setCell ⟨w.heap.size, 5, none⟩ (.int .u64 0)).setCell ⟨w.heap.size, 6, none⟩ (.int .u64 0)).setCell ⟨w.heap.size, 7, none⟩ (.int .u64 0)).setCell ⟨w.heap.size, 8, none⟩ (.int .i64 0)).setCell ⟨w.heap.size, 9, none⟩ (.slice none 0 0)).setCell ⟨w.heap.size, 10, none⟩ (.slice none 0 0)) = Z at hz2c hkzc
        have K1 : Kp (fun k => k = w.heap.size ∨ k = w.heap.size + 1) W3 (Z.setCell ⟨w.heap.size + 1, 0, none⟩ (.int .i64 E)) := (hkzc.imp (fun j h => .inl h)).setCell (x := ⟨w.heap.size + 1, 0, none⟩) (.inl (.inr rfl)) _
        have QB : NB.Bk L .busy (Z.setCell ⟨w.heap.size + 1, 0, none⟩ (.int .i64 E)) := hB3.kp K1 (by omega) (by omega)
        have c2Z : Rw (Z.setCell ⟨w.heap.size + 1, 0, none⟩ (.int .i64 E)) w.heap.size (msgV mm0 none 0 none 0) 32 := Rw.keep hz2c ((Kp.refl (fun k => k = w.heap.size + 1) Z).setCell (x := ⟨w.heap.size + 1, 0, none⟩) (.inl rfl) _) (by omega)
        have c3Z : Rw (Z.setCell ⟨w.heap.size + 1, 0, none⟩ (.int .i64 E)) (w.heap.size + 1) [.int .i64 E] 24 := (hc3.keep hkzc (by omega)).set 0 (.int .i64 E)
        have blZ := hbl.trans (K1.belowB hbl.size (by rintro j (rfl | rfl) <;> omega))
        have szZ := K1.size
        generalize hY : Z.setCell ⟨w.heap.size + 1, 0, none⟩ (.int .i64 E) = Y at K1 QB c2Z c3Z blZ szZ
        have QA : ∀ o : Obj, E ≠ 0 ∧ Rw (Y.putObj (w6.heap.size + 1) o) w.heap.size (msgV mm0 none 0 none 0) 32 ∧ Rw (Y.putObj (w6.heap.size + 1) o) (w.heap.size + 1) [.int .i64 E] 24 ∧ Below w.heap.size w (Y.putObj (w6.heap.size + 1) o) ∧ w6.heap.size + 1 < (Y.putObj (w6.heap.size + 1) o).heap.size := fun o => by
          have hk := NB.kp_put Y (w6.heap.size + 1) o
          have hs := hk.size
          exact ⟨he, c2Z.keep hk (by omega), c3Z.keep hk (by omega), blZ.trans (hk.belowB blZ.size (by rintro j rfl; omega)), by omega⟩
        have HZ := Go.Lib.hid hZ
        have HY := Go.Lib.hid hY
        have HQ := Go.Lib.hid (And.intro QB QA)
        clear hZ hY QB QA c2Z c3Z blZ szZ K1 hz2c hkzc hz2 hkz hc3' hB3
        gi_wp2_with fail
        rw [HZ.out, HY.out]
        have HQ2 := HQ.out.2 (.loop (L.at_ .done (some .ret)))
        exact ⟨HQ.out.1, HQ2.2.1, HQ2.2.2.1, HQ2.2.2.2.1, Nat.lt_of_lt_of_le hlt2 hsz3⟩
    · rintro e W' ⟨he, (⟨h1, h2, h3, h4⟩ | ⟨h1, h2⟩)⟩
      · exact ⟨he, .inl ⟨h1, by rw [← hE]; exact h3, h2, h4.elim (fun h => h.gf) (fun h => h.1)⟩⟩
      · exact ⟨he, .inr ⟨h1, h2⟩⟩
  case hdone =>
    rintro W1 o ⟨hE0, hG, hF⟩ hlt hd
    have G2 := hG.loop o
    have F2 := hF.put (by omega) (w6.heap.size + 1) (by omega) (Nat.le_refl _) o
    have hd2 : (W1.putObj (w6.heap.size + 1) o).heap[w6.heap.size]? = some (.deferred (some [])) := (World.putObj_heap_other (by omega)).trans hd
    obtain ⟨r, m, hrm⟩ : ∃ r m, rdI kk bd 10 = (r, m) := ⟨_, _, rfl⟩
    have hmg := HMG.out
    rw [hrm] at hmg G2 F2
    simp only at hmg G2 F2
    obtain ⟨W2, hW2⟩ : ∃ W2, W1.putObj (w6.heap.size + 1) o = W2 := ⟨_, rfl⟩
    rw [hW2] at G2 F2 hd2 ⊢
    obtain ⟨Fr, hr, hFr⟩ := G2.rd
    obtain ⟨av, cv, ab, cb, M2, R2, v2, b2⟩ := F2
    have cp := G2.ptr.cell 0 _ rfl
    have HM := Go.Lib.hid hmg
    clear hmg hW2 hrm HMG hE hE0 hG hF hlt hd hr8 A8 C8 K8 P8 B8 M8
    gi_wp2_with fail
    refine ⟨trivial, (callsIn_wide.2 (rend_any W2 _ pr Fr r hr)).mono ?_⟩
    rintro e W3 ⟨rfl, e3⟩
    subst W3
    by_cases hf : r.fin = 0
    · have hmg := HM.out
      rw [if_neg (by simp [hf])] at hmg
      rw [hf]
      have HM := Go.Lib.hid hmg
      clear hmg hr hf
      have C2 := G2.c2
      have C3 := G2.c3
      have ap := G2.ap
      obtain ⟨Y, HY⟩ := got_end C2 C3 G2.bel ap.1 ap.2.1 (by omega) m av cv ab cb R2 v2 b2 hd2 0
      have HG := Go.Lib.hid HY.2
      have HD := Go.Lib.hid HY.2.1
      have HY := Go.Lib.hid HY.1
      have hlt4 := G2.lt
      unfold msgV mm0 at C2
      simp only [List.length_nil] at C2
      have p0 := C2.cell 0 _ rfl
      have p1 := C2.cell 1 _ rfl
      have p2 := C2.cell 2 _ rfl
      have p3 := C2.cell 3 _ rfl
      have p4 := C2.cell 4 _ rfl
      have p5 := C2.cell 5 _ rfl
      have p6 := C2.cell 6 _ rfl
      have p7 := C2.cell 7 _ rfl
      have p8 := C2.cell 8 _ rfl
      have p9 := C2.cell 9 _ rfl
      have p10 := C2.cell 10 _ rfl
      have q0 := C2.free 0
      have q1 := C2.free 1
      have q2 := C2.free 2
      have q3 := C2.free 3
      have q4 := C2.free 4
      have q5 := C2.free 5
      have q6 := C2.free 6
      have q7 := C2.free 7
      have q8 := C2.free 8
      have q9 := C2.free 9
      have q10 := C2.free 10
      have x0 := C3.cell 0 _ rfl
      have y0 := C3.free 0
      have s0 := M2.cell 0 _ rfl
      have s1 := M2.cell 1 _ rfl
      have s2 := M2.cell 2 _ rfl
      have s3 := M2.cell 3 _ rfl
      have s4 := M2.cell 4 _ rfl
      have s5 := M2.cell 5 _ rfl
      have s6 := M2.cell 6 _ rfl
      have s7 := M2.cell 7 _ rfl
      have s8 := M2.cell 8 _ rfl
      have s9 := M2.cell 9 _ rfl
      have s10 := M2.cell 10 _ rfl
      clear G2 M2 R2 v2 b2 hd2 C2 C3 hFr
      gi_wp2_with fail
      refine ⟨by simp, .inl ⟨_, _, rfl, run_takeDeferred HD.out, ?_⟩⟩
      refine ⟨.tuple #[.agg (msgV m av cv ab cb).toArray, .int .i64 0], ?_, ?_⟩
      · have Hd := HG.out.2
        obtain ⟨c2k, c3k, _⟩ := Hd
        have d0 := c2k.cell 0 _ rfl
        have d1 := c2k.cell 1 _ rfl
        have d2 := c2k.cell 2 _ rfl
        have d3 := c2k.cell 3 _ rfl
        have d4 := c2k.cell 4 _ rfl
        have d5 := c2k.cell 5 _ rfl
        have d6 := c2k.cell 6 _ rfl
        have d7 := c2k.cell 7 _ rfl
        have d8 := c2k.cell 8 _ rfl
        have d9 := c2k.cell 9 _ rfl
        have d10 := c2k.cell 10 _ rfl
        have e0 := c3k.cell 0 _ rfl
        simp [results, Tryd.results11, go_sem, d0, d1, d2, d3, d4, d5, d6, d7, d8, d9, d10, e0]
        rfl
      · rw [HM.out]; exact HG.out.2.2.2
    · have hmg := HM.out
      rw [if_pos hf] at hmg
      have HM := Go.Lib.hid hmg
      clear hmg hr
      have hfb : (r.fin != 0) = true := by simpa using hf
      have C2 := G2.c2
      have C3 := G2.c3
      have ap := G2.ap
      obtain ⟨Y, HY⟩ := got_end C2 C3 G2.bel ap.1 ap.2.1 (by omega) mm0 none 0 none 0 (msgR_nil rfl rfl) (fun _ _ e => nomatch e) (fun _ _ e => nomatch e) hd2 r.fin
      have HG := Go.Lib.hid HY.2
      have HD := Go.Lib.hid HY.2.1
      have HY := Go.Lib.hid HY.1
      have hlt4 := G2.lt
      unfold msgV mm0 at C2
      simp only [List.length_nil] at C2
      have p0 := C2.cell 0 _ rfl
      have p1 := C2.cell 1 _ rfl
      have p2 := C2.cell 2 _ rfl
      have p3 := C2.cell 3 _ rfl
      have p4 := C2.cell 4 _ rfl
      have p5 := C2.cell 5 _ rfl
      have p6 := C2.cell 6 _ rfl
      have p7 := C2.cell 7 _ rfl
      have p8 := C2.cell 8 _ rfl
      have p9 := C2.cell 9 _ rfl
      have p10 := C2.cell 10 _ rfl
      have q0 := C2.free 0
      have q1 := C2.free 1
      have q2 := C2.free 2
      have q3 := C2.free 3
      have q4 := C2.free 4
      have q5 := C2.free 5
      have q6 := C2.free 6
      have q7 := C2.free 7
      have q8 := C2.free 8
      have q9 := C2.free 9
      have q10 := C2.free 10
      have x0 := C3.cell 0 _ rfl
      have y0 := C3.free 0
      clear G2 M2 R2 v2 b2 hd2 C2 C3 hFr
      gi_wp2_with fail
      rw [show (((((((((((W2.setCell ⟨w.heap.size, 0, none⟩ (.int .i64 0)).setCell ⟨w.heap.size, 1, none⟩ (.int .u64 0)).setCell ⟨w.heap.size, 2, none⟩ (.int .u64 0)).setCell ⟨w.heap.size, 3, none⟩ (.int .i64 0)).setCell ⟨w.heap.size, 4, none⟩ (.int .i64 0)).setCell ⟨w.heap.size, 5, none⟩ (.int .u64 0)).setCell ⟨w.heap.size, 6, none⟩ (.int .u64 0)).setCell ⟨w.heap.size, 7, none⟩ (.int .u64 0)).setCell ⟨w.heap.size, 8, none⟩ (.int .i64 0)).setCell ⟨w.heap.size, 9, none⟩ (.slice none 0 0)).setCell ⟨w.heap.size, 10, none⟩ (.slice none 0 0)).setCell ⟨w.heap.size + 1, 0, none⟩ (.int .i64 r.fin) = Y from HY.out]
      refine ⟨by simp, .inl ⟨_, _, rfl, run_takeDeferred HD.out, ?_⟩⟩
      refine ⟨.tuple #[.agg (msgV mm0 none 0 none 0).toArray, .int .i64 r.fin], ?_, ?_⟩
      · have Hd := HG.out.2
        obtain ⟨c2k, c3k, _⟩ := Hd
        have d0 := c2k.cell 0 _ rfl
        have d1 := c2k.cell 1 _ rfl
        have d2 := c2k.cell 2 _ rfl
        have d3 := c2k.cell 3 _ rfl
        have d4 := c2k.cell 4 _ rfl
        have d5 := c2k.cell 5 _ rfl
        have d6 := c2k.cell 6 _ rfl
        have d7 := c2k.cell 7 _ rfl
        have d8 := c2k.cell 8 _ rfl
        have d9 := c2k.cell 9 _ rfl
        have d10 := c2k.cell 10 _ rfl
        have e0 := c3k.cell 0 _ rfl
        simp [results, Tryd.results11, go_sem, d0, d1, d2, d3, d4, d5, d6, d7, d8, d9, d10, e0]
        rfl
      · rw [HM.out]; exact HG.out.2.2.2
  case hstop =>
    rintro W1 o ⟨hE0, hc2, hc3, hbl, hsz⟩ hlt hd
    have hk := NB.kp_put W1 (w6.heap.size + 1) o
    have c2 := hc2.keep hk (by omega)
    have c3 := hc3.keep hk (by omega)
    have bl := hbl.trans (hk.belowB hbl.size (by rintro j rfl; omega))
    have hd2 : (W1.putObj (w6.heap.size + 1) o).heap[w6.heap.size]? = some (.deferred (some [])) := (World.putObj_heap_other (by omega)).trans hd
    have hl2 := Nat.lt_of_lt_of_le hsz hk.size
    obtain ⟨W2, hW2⟩ : ∃ W2, W1.putObj (w6.heap.size + 1) o = W2 := ⟨_, rfl⟩
    rw [hW2] at c2 c3 bl hd2 hl2 ⊢
    clear hW2 hk hc2 hc3 hbl hsz hlt hd
    have hmg := HMG.out
    have hfin : (rdI kk bd 10).1.fin = E := by
      unfold Rr.fin
      rw [hE, if_pos hE0]
    rw [hfin, if_pos hE0] at hmg
    rw [hmg]
    have HD := Go.Lib.hid hd2
    have kd := NB.kp_put W2 w6.heap.size (.deferred none)
    have FIN : GotE w (mm0, E) (.returned (.tuple #[.agg (msgV mm0 none 0 none 0).toArray, .int .i64 E])) (W2.putObj w6.heap.size (.deferred none)) :=
      ⟨none, 0, none, 0, rfl, msgR_nil rfl rfl, bl.trans (kd.belowB bl.size (by rintro j rfl; omega)), (fun _ _ e => nomatch e), (fun _ _ e => nomatch e)⟩
    have HF := Go.Lib.hid FIN
    have c2k := c2.keep kd (by omega)
    have c3k := c3.keep kd (by omega)
    clear FIN kd c2 c3 hd2
    gi_wp2_with fail
    refine ⟨by simp, .inl ⟨_, _, rfl, run_takeDeferred HD.out, ?_⟩⟩
    refine ⟨.tuple #[.agg (msgV mm0 none 0 none 0).toArray, .int .i64 E], ?_, ?_⟩
    · have d0 := c2k.cell 0 _ rfl
      have d1 := c2k.cell 1 _ rfl
      have d2 := c2k.cell 2 _ rfl
      have d3 := c2k.cell 3 _ rfl
      have d4 := c2k.cell 4 _ rfl
      have d5 := c2k.cell 5 _ rfl
      have d6 := c2k.cell 6 _ rfl
      have d7 := c2k.cell 7 _ rfl
      have d8 := c2k.cell 8 _ rfl
      have d9 := c2k.cell 9 _ rfl
      have d10 := c2k.cell 10 _ rfl
      have e0 := c3k.cell 0 _ rfl
      simp [results, Tryd.results11, go_sem, d0, d1, d2, d3, d4, d5, d6, d7, d8, d9, d10, e0]
      rfl
    · exact HF.out
end Go.Proofs.YtadgokegjmigoaaDoor
