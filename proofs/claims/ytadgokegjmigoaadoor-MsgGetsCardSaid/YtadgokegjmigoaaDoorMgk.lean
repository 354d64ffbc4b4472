/- A message is got: where it is refused ahead of its fields; the whole. -/
import Derived.Test.YtadgokegjmigoaaDoorMgj
namespace Go.Proofs.YtadgokegjmigoaaDoor
open Go.RowKit Go.Shelf
open Go.NB (Rd Kp Stp Off Dis oneB dB Rw RdU Lp Rr encU encB)
attribute [local go_sem] Oper.semAt_some

theorem got_no {w W : World} {r2 r3 : Nat} (c2 : Rw W r2 (msgV mm0 none 0 none 0) 32) (c3 : Rw W r3 [.int .i64 0] 24) (bel : Below w.heap.size w W) (h2 : w.heap.size ≤ r2) (h23 : r2 < r3) (e : Int) :
    ∃ Y, ((((((((((((W.setCell ⟨r2, 0, none⟩ (.int .i64 0)).setCell ⟨r2, 1, none⟩ (.int .u64 0)).setCell ⟨r2, 2, none⟩ (.int .u64 0)).setCell ⟨r2, 3, none⟩ (.int .i64 0)).setCell ⟨r2, 4, none⟩ (.int .i64 0)).setCell ⟨r2, 5, none⟩ (.int .u64 0)).setCell ⟨r2, 6, none⟩ (.int .u64 0)).setCell ⟨r2, 7, none⟩ (.int .u64 0)).setCell ⟨r2, 8, none⟩ (.int .i64 0)).setCell ⟨r2, 9, none⟩ (.slice none 0 0)).setCell ⟨r2, 10, none⟩ (.slice none 0 0))).setCell ⟨r3, 0, none⟩ (.int .i64 e) = Y ∧ Rw Y r2 (msgV mm0 none 0 none 0) 32 ∧ Rw Y r3 [.int .i64 e] 24 ∧
      GotE w (mm0, e) (.returned (.tuple #[.agg (msgV mm0 none 0 none 0).toArray, .int .i64 e])) Y := by
  have c2' := c2
  unfold msgV mm0 at c2'
  simp only [List.length_nil] at c2'
  obtain ⟨z1, z2⟩ := set_msg (m := mm0) (av := none) (cv := 0) (ab := none) (cb := 0) c2' (.int .i64 0) (.int .u64 0) (.int .u64 0) (.int .i64 0) (.int .i64 0) (.int .u64 0) (.int .u64 0) (.int .u64 0) (.int .i64 0) (.slice none 0 0) (.slice none 0 0)
  refine ⟨_, rfl, ?_⟩
  generalize (((((((((((W.setCell ⟨r2, 0, none⟩ (.int .i64 0)).setCell ⟨r2, 1, none⟩ (.int .u64 0)).setCell ⟨r2, 2, none⟩ (.int .u64 0)).setCell ⟨r2, 3, none⟩ (.int .i64 0)).setCell ⟨r2, 4, none⟩ (.int .i64 0)).setCell ⟨r2, 5, none⟩ (.int .u64 0)).setCell ⟨r2, 6, none⟩ (.int .u64 0)).setCell ⟨r2, 7, none⟩ (.int .u64 0)).setCell ⟨r2, 8, none⟩ (.int .i64 0)).setCell ⟨r2, 9, none⟩ (.slice none 0 0)).setCell ⟨r2, 10, none⟩ (.slice none 0 0)) = Z at z1 z2 ⊢
  have K1 : Kp (fun k => k = r2 ∨ k = r3) W (Z.setCell ⟨r3, 0, none⟩ (.int .i64 e)) := (z2.imp (fun j h => .inl h)).setCell (x := ⟨r3, 0, none⟩) (.inl (.inr rfl)) _
  have C2 := Rw.keep z1 ((Kp.refl (fun k => k = r3) Z).setCell (x := ⟨r3, 0, none⟩) (.inl rfl) (.int .i64 e)) (by omega)
  have C3 : Rw (Z.setCell ⟨r3, 0, none⟩ (.int .i64 e)) r3 [.int .i64 e] 24 := (c3.keep z2 (by omega)).set 0 (.int .i64 e)
  exact ⟨C2, C3, none, 0, none, 0, rfl, msgR_nil rfl rfl, bel.trans (K1.belowB bel.size (by rintro j (rfl | rfl) <;> omega)), (fun _ _ e => nomatch e), (fun _ _ e => nomatch e)⟩

set_option maxRecDepth 100000 in
set_option maxHeartbeats 4000000 in
theorem mget_bad (w : World) (hT : Tb w) (a : Option Addr) (n c : Nat) (b : List UInt8) (hr : NB.RdB w a n c b) (hl : n ≤ 100000000) (kb : UInt8) (bd : List UInt8) (nn : Nat) (e0 : Int) (he0 : e0 ≠ 0) (hg : fgetM b = ((kb, bd), nn, e0)) :
    Calls Tryd.prog 11 #[.slice a n c] w (GotE w (mgetM b)) := by
  have hsz := NB.RdB.size hr
  have hbn := Rd.bound hr
  have hmg : mgetM b = (mm0, e0) := by
    unfold mgetM
    rw [hg]
    simp only
    rw [if_pos he0]
  rw [hmg]
  clear hmg
  obtain ⟨kk, hkk⟩ : ∃ kk, kb.toNat = kk := ⟨_, rfl⟩
  have hk1 : (kk : Int) < 256 := by have := kb.toNat_lt; omega
  have A1 := NB.rw_new w (msgV mm0 none 0 none 0) 32 rfl
  have b1 := oneB w (.cells (msgV mm0 none 0 none 0).toArray 32)
  have A2 := A1.below (oneB _ (.cells #[.int .i64 0] 24))
  have C2 : Rw ((w.alloc (.cells (msgV mm0 none 0 none 0).toArray 32)).alloc (.cells #[.int .i64 0] 24)) (w.heap.size + 1) [.int .i64 0] 24 := NB.rw_new _ [.int .i64 0] _ (by simp)
  have b2 : Below w.heap.size w ((w.alloc (.cells (msgV mm0 none 0 none 0).toArray 32)).alloc (.cells #[.int .i64 0] 24)) := b1.alloc b1.size _
  have hs2 : ((w.alloc (.cells (msgV mm0 none 0 none 0).toArray 32)).alloc (.cells #[.int .i64 0] 24)).heap.size = w.heap.size + 2 := by simp
  have hfg := fget_any ((w.alloc (.cells (msgV mm0 none 0 none 0).toArray 32)).alloc (.cells #[.int .i64 0] 24)) a n c b (hr.below b2) hl
  rw [hg] at hfg
  unfold GetE at hfg
  simp only at hfg
  rw [hkk] at hfg
  have HFG := Go.Lib.hid hfg
  clear hfg A1 b1 hg
  refine (callsIn_wide (n := 6)).1 ?_
  refine callsIn_of_wp_marks Tryd.func11 rfl trivial ?_ rfl
  simp only [Tryd.ntmps11, List.size_toArray, List.length_cons, List.length_nil, Nat.reduceAdd, Nat.reduceSub, Array.replicate_succ, Array.replicate_zero, List.push_toArray, List.append_toArray, List.nil_append, List.cons_append]
  unfold msgV mm0 at A2 C2 b2 hs2 HFG
  simp only [List.toArray, List.length_nil] at A2 C2 b2 hs2 HFG
  have heb : (e0 != 0) = true := by simpa using he0
  gi_wp2_with fail
  refine ⟨trivial, (callsIn_wide.2 HFG.out).mono ?_⟩
  rintro e w1 ⟨a1, n1, c1, rfl, hr1, hb1, hf1⟩
  have A3 := A2.below hb1
  have C3 := C2.below hb1
  have B3 := NB.bel b2 hb1 b2.size
  have hs3 := hb1.size
  rw [hs2] at hs3
  have hn1 := NB.RdB.size hr1
  clear A2 C2 b2 hs2 HFG hb1
  clear hr hsz hbn hr1 hf1 hn1
  have X4 : Below w1.heap.size w1 (w1.alloc (.cells #[.int .u8 (kk : Int), .slice a1 n1 c1] 50)) := oneB w1 _
  have F4 : Rw (w1.alloc (.cells #[.int .u8 (kk : Int), .slice a1 n1 c1] 50)) w1.heap.size [.int .u8 (kk : Int), .slice a1 n1 c1] 50 := NB.rw_new w1 [.int .u8 (kk : Int), .slice a1 n1 c1] _ rfl
  have A4 := A3.below X4
  have C4 := C3.below X4
  have B4 := NB.bel B3 X4 B3.size
  have hs4 : (w1.alloc (.cells #[.int .u8 (kk : Int), .slice a1 n1 c1] 50)).heap.size = w1.heap.size + 1 := by simp
  have g0 := F4.cell 0 _ rfl
  clear hs4
  obtain ⟨Y, HYY⟩ := got_no A4 C4 B4 (Nat.le_refl _) (by omega) (e0)
  have HG := Go.Lib.hid HYY.2
  have HY := Go.Lib.hid HYY.1
  clear HYY
  have p0 := A4.cell 0 _ rfl
  have p1 := A4.cell 1 _ rfl
  have p2 := A4.cell 2 _ rfl
  have p3 := A4.cell 3 _ rfl
  have p4 := A4.cell 4 _ rfl
  have p5 := A4.cell 5 _ rfl
  have p6 := A4.cell 6 _ rfl
  have p7 := A4.cell 7 _ rfl
  have p8 := A4.cell 8 _ rfl
  have p9 := A4.cell 9 _ rfl
  have p10 := A4.cell 10 _ rfl
  have q0 := A4.free 0
  have q1 := A4.free 1
  have q2 := A4.free 2
  have q3 := A4.free 3
  have q4 := A4.free 4
  have q5 := A4.free 5
  have q6 := A4.free 6
  have q7 := A4.free 7
  have q8 := A4.free 8
  have q9 := A4.free 9
  have q10 := A4.free 10
  have x0 := C4.cell 0 _ rfl
  have y0 := C4.free 0
  clear A4 C4
  gi_wp2_with fail
  rw [show ((((((((((((w1.alloc (.cells #[.int .u8 (kk : Int), .slice a1 n1 c1] 50)).setCell ⟨w.heap.size, 0, none⟩ (.int .i64 0)).setCell ⟨w.heap.size, 1, none⟩ (.int .u64 0)).setCell ⟨w.heap.size, 2, none⟩ (.int .u64 0)).setCell ⟨w.heap.size, 3, none⟩ (.int .i64 0)).setCell ⟨w.heap.size, 4, none⟩ (.int .i64 0)).setCell ⟨w.heap.size, 5, none⟩ (.int .u64 0)).setCell ⟨w.heap.size, 6, none⟩ (.int .u64 0)).setCell ⟨w.heap.size, 7, none⟩ (.int .u64 0)).setCell ⟨w.heap.size, 8, none⟩ (.int .i64 0)).setCell ⟨w.heap.size, 9, none⟩ (.slice none 0 0)).setCell ⟨w.heap.size, 10, none⟩ (.slice none 0 0)).setCell ⟨w.heap.size + 1, 0, none⟩ (.int .i64 (e0)) = Y from HY.out]
  refine ⟨.tuple #[.agg (msgV mm0 none 0 none 0).toArray, .int .i64 (e0)], ?_, ?_⟩
  · obtain ⟨c2k, c3k, _⟩ := HG.out
    have d0 := c2k.cell 0 _ rfl
    have d1 := c2k.cell 1 _ rfl
    have d2 := c2k.cell 2 _ rfl
    have d3 := c2k.cell 3 _ rfl
    have d4 := c2k.cell 4 _ rfl
    have d5 := c2k.cell 5 _ rfl
    have d6 := c2k.cell 6 _ rfl
    have d7 := c2k.cell 7 _ rfl
    have d8 := c2k.cell 8 _ rfl
    have d9 := c2k.cell 9 _ rfl
    have d10 := c2k.cell 10 _ rfl
    have e0 := c3k.cell 0 _ rfl
    simp [results, Tryd.results11, go_sem, d0, d1, d2, d3, d4, d5, d6, d7, d8, d9, d10, e0]
    rfl
  · exact HG.out.2.2

set_option maxRecDepth 100000 in
set_option maxHeartbeats 4000000 in
theorem mget_more (w : World) (hT : Tb w) (a : Option Addr) (n c : Nat) (b : List UInt8) (hr : NB.RdB w a n c b) (hl : n ≤ 100000000) (kb : UInt8) (bd : List UInt8) (nn : Nat) (hg : fgetM b = ((kb, bd), nn, 0)) (hn : nn < n) :
    Calls Tryd.prog 11 #[.slice a n c] w (GotE w (mgetM b)) := by
  have hsz := NB.RdB.size hr
  have hbn := Rd.bound hr
  have hmg : mgetM b = (mm0, 11) := by
    unfold mgetM
    rw [hg]
    simp only
    rw [if_neg (by simp), if_pos (by omega)]
  rw [hmg]
  clear hmg
  obtain ⟨kk, hkk⟩ : ∃ kk, kb.toNat = kk := ⟨_, rfl⟩
  have hk1 : (kk : Int) < 256 := by have := kb.toNat_lt; omega
  have A1 := NB.rw_new w (msgV mm0 none 0 none 0) 32 rfl
  have b1 := oneB w (.cells (msgV mm0 none 0 none 0).toArray 32)
  have A2 := A1.below (oneB _ (.cells #[.int .i64 0] 24))
  have C2 : Rw ((w.alloc (.cells (msgV mm0 none 0 none 0).toArray 32)).alloc (.cells #[.int .i64 0] 24)) (w.heap.size + 1) [.int .i64 0] 24 := NB.rw_new _ [.int .i64 0] _ (by simp)
  have b2 : Below w.heap.size w ((w.alloc (.cells (msgV mm0 none 0 none 0).toArray 32)).alloc (.cells #[.int .i64 0] 24)) := b1.alloc b1.size _
  have hs2 : ((w.alloc (.cells (msgV mm0 none 0 none 0).toArray 32)).alloc (.cells #[.int .i64 0] 24)).heap.size = w.heap.size + 2 := by simp
  have hfg := fget_any ((w.alloc (.cells (msgV mm0 none 0 none 0).toArray 32)).alloc (.cells #[.int .i64 0] 24)) a n c b (hr.below b2) hl
  rw [hg] at hfg
  unfold GetE at hfg
  simp only at hfg
  rw [hkk] at hfg
  have HFG := Go.Lib.hid hfg
  clear hfg A1 b1 hg
  refine (callsIn_wide (n := 6)).1 ?_
  refine callsIn_of_wp_marks Tryd.func11 rfl trivial ?_ rfl
  simp only [Tryd.ntmps11, List.size_toArray, List.length_cons, List.length_nil, Nat.reduceAdd, Nat.reduceSub, Array.replicate_succ, Array.replicate_zero, List.push_toArray, List.append_toArray, List.nil_append, List.cons_append]
  unfold msgV mm0 at A2 C2 b2 hs2 HFG
  simp only [List.toArray, List.length_nil] at A2 C2 b2 hs2 HFG
  have hnn : (nn : Int) < (n : Int) := by omega
  gi_wp2_with fail
  refine ⟨trivial, (callsIn_wide.2 HFG.out).mono ?_⟩
  rintro e w1 ⟨a1, n1, c1, rfl, hr1, hb1, hf1⟩
  have A3 := A2.below hb1
  have C3 := C2.below hb1
  have B3 := NB.bel b2 hb1 b2.size
  have hs3 := hb1.size
  rw [hs2] at hs3
  have hn1 := NB.RdB.size hr1
  clear A2 C2 b2 hs2 HFG hb1
  clear hr hsz hbn hr1 hf1 hn1
  have X4 : Below w1.heap.size w1 (w1.alloc (.cells #[.int .u8 (kk : Int), .slice a1 n1 c1] 50)) := oneB w1 _
  have F4 : Rw (w1.alloc (.cells #[.int .u8 (kk : Int), .slice a1 n1 c1] 50)) w1.heap.size [.int .u8 (kk : Int), .slice a1 n1 c1] 50 := NB.rw_new w1 [.int .u8 (kk : Int), .slice a1 n1 c1] _ rfl
  have A4 := A3.below X4
  have C4 := C3.below X4
  have B4 := NB.bel B3 X4 B3.size
  have hs4 : (w1.alloc (.cells #[.int .u8 (kk : Int), .slice a1 n1 c1] 50)).heap.size = w1.heap.size + 1 := by simp
  have g0 := F4.cell 0 _ rfl
  clear hs4
  obtain ⟨Y, HYY⟩ := got_no A4 C4 B4 (Nat.le_refl _) (by omega) (11)
  have HG := Go.Lib.hid HYY.2
  have HY := Go.Lib.hid HYY.1
  clear HYY
  have p0 := A4.cell 0 _ rfl
  have p1 := A4.cell 1 _ rfl
  have p2 := A4.cell 2 _ rfl
  have p3 := A4.cell 3 _ rfl
  have p4 := A4.cell 4 _ rfl
  have p5 := A4.cell 5 _ rfl
  have p6 := A4.cell 6 _ rfl
  have p7 := A4.cell 7 _ rfl
  have p8 := A4.cell 8 _ rfl
  have p9 := A4.cell 9 _ rfl
  have p10 := A4.cell 10 _ rfl
  have q0 := A4.free 0
  have q1 := A4.free 1
  have q2 := A4.free 2
  have q3 := A4.free 3
  have q4 := A4.free 4
  have q5 := A4.free 5
  have q6 := A4.free 6
  have q7 := A4.free 7
  have q8 := A4.free 8
  have q9 := A4.free 9
  have q10 := A4.free 10
  have x0 := C4.cell 0 _ rfl
  have y0 := C4.free 0
  clear A4 C4
  gi_wp2_with fail
  refine ⟨trivial, ?_⟩
  gi_wp2_with fail
  rw [show ((((((((((((w1.alloc (.cells #[.int .u8 (kk : Int), .slice a1 n1 c1] 50)).setCell ⟨w.heap.size, 0, none⟩ (.int .i64 0)).setCell ⟨w.heap.size, 1, none⟩ (.int .u64 0)).setCell ⟨w.heap.size, 2, none⟩ (.int .u64 0)).setCell ⟨w.heap.size, 3, none⟩ (.int .i64 0)).setCell ⟨w.heap.size, 4, none⟩ (.int .i64 0)).setCell ⟨w.heap.size, 5, none⟩ (.int .u64 0)).setCell ⟨w.heap.size, 6, none⟩ (.int .u64 0)).setCell ⟨w.heap.size, 7, none⟩ (.int .u64 0)).setCell ⟨w.heap.size, 8, none⟩ (.int .i64 0)).setCell ⟨w.heap.size, 9, none⟩ (.slice none 0 0)).setCell ⟨w.heap.size, 10, none⟩ (.slice none 0 0)).setCell ⟨w.heap.size + 1, 0, none⟩ (.int .i64 (11)) = Y from HY.out]
  refine ⟨.tuple #[.agg (msgV mm0 none 0 none 0).toArray, .int .i64 (11)], ?_, ?_⟩
  · obtain ⟨c2k, c3k, _⟩ := HG.out
    have d0 := c2k.cell 0 _ rfl
    have d1 := c2k.cell 1 _ rfl
    have d2 := c2k.cell 2 _ rfl
    have d3 := c2k.cell 3 _ rfl
    have d4 := c2k.cell 4 _ rfl
    have d5 := c2k.cell 5 _ rfl
    have d6 := c2k.cell 6 _ rfl
    have d7 := c2k.cell 7 _ rfl
    have d8 := c2k.cell 8 _ rfl
    have d9 := c2k.cell 9 _ rfl
    have d10 := c2k.cell 10 _ rfl
    have e0 := c3k.cell 0 _ rfl
    simp [results, Tryd.results11, go_sem, d0, d1, d2, d3, d4, d5, d6, d7, d8, d9, d10, e0]
    rfl
  · exact HG.out.2.2

set_option maxRecDepth 100000 in
set_option maxHeartbeats 4000000 in
theorem mget_odd (w : World) (hT : Tb w) (a : Option Addr) (n c : Nat) (b : List UInt8) (hr : NB.RdB w a n c b) (hl : n ≤ 100000000) (kb : UInt8) (bd : List UInt8) (nn : Nat) (hg : fgetM b = ((kb, bd), nn, 0)) (hn : ¬ nn < n) (hk : known (kb.toNat : Int) = false) :
    Calls Tryd.prog 11 #[.slice a n c] w (GotE w (mgetM b)) := by
  have hsz := NB.RdB.size hr
  have hbn := Rd.bound hr
  have hmg : mgetM b = (mm0, 11) := by
    unfold mgetM
    rw [hg]
    simp only
    rw [if_neg (by simp), if_pos (.inr hk)]
  rw [hmg]
  clear hmg
  obtain ⟨kk, hkk⟩ : ∃ kk, kb.toNat = kk := ⟨_, rfl⟩
  have hk1 : (kk : Int) < 256 := by have := kb.toNat_lt; omega
  rw [hkk] at hk
  have A1 := NB.rw_new w (msgV mm0 none 0 none 0) 32 rfl
  have b1 := oneB w (.cells (msgV mm0 none 0 none 0).toArray 32)
  have A2 := A1.below (oneB _ (.cells #[.int .i64 0] 24))
  have C2 : Rw ((w.alloc (.cells (msgV mm0 none 0 none 0).toArray 32)).alloc (.cells #[.int .i64 0] 24)) (w.heap.size + 1) [.int .i64 0] 24 := NB.rw_new _ [.int .i64 0] _ (by simp)
  have b2 : Below w.heap.size w ((w.alloc (.cells (msgV mm0 none 0 none 0).toArray 32)).alloc (.cells #[.int .i64 0] 24)) := b1.alloc b1.size _
  have hs2 : ((w.alloc (.cells (msgV mm0 none 0 none 0).toArray 32)).alloc (.cells #[.int .i64 0] 24)).heap.size = w.heap.size + 2 := by simp
  have hfg := fget_any ((w.alloc (.cells (msgV mm0 none 0 none 0).toArray 32)).alloc (.cells #[.int .i64 0] 24)) a n c b (hr.below b2) hl
  rw [hg] at hfg
  unfold GetE at hfg
  simp only at hfg
  rw [hkk] at hfg
  have HFG := Go.Lib.hid hfg
  clear hfg A1 b1 hg
  refine (callsIn_wide (n := 6)).1 ?_
  refine callsIn_of_wp_marks Tryd.func11 rfl trivial ?_ rfl
  simp only [Tryd.ntmps11, List.size_toArray, List.length_cons, List.length_nil, Nat.reduceAdd, Nat.reduceSub, Array.replicate_succ, Array.replicate_zero, List.push_toArray, List.append_toArray, List.nil_append, List.cons_append]
  unfold msgV mm0 at A2 C2 b2 hs2 HFG
  simp only [List.toArray, List.length_nil] at A2 C2 b2 hs2 HFG
  have hnn : ¬ (nn : Int) < (n : Int) := by omega
  gi_wp2_with fail
  refine ⟨trivial, (callsIn_wide.2 HFG.out).mono ?_⟩
  rintro e w1 ⟨a1, n1, c1, rfl, hr1, hb1, hf1⟩
  have A3 := A2.below hb1
  have C3 := C2.below hb1
  have B3 := NB.bel b2 hb1 b2.size
  have hs3 := hb1.size
  rw [hs2] at hs3
  have hn1 := NB.RdB.size hr1
  clear A2 C2 b2 hs2 HFG hb1
  clear hr hsz hbn hr1 hf1 hn1
  have X4 : Below w1.heap.size w1 (w1.alloc (.cells #[.int .u8 (kk : Int), .slice a1 n1 c1] 50)) := oneB w1 _
  have F4 : Rw (w1.alloc (.cells #[.int .u8 (kk : Int), .slice a1 n1 c1] 50)) w1.heap.size [.int .u8 (kk : Int), .slice a1 n1 c1] 50 := NB.rw_new w1 [.int .u8 (kk : Int), .slice a1 n1 c1] _ rfl
  have A4 := A3.below X4
  have C4 := C3.below X4
  have B4 := NB.bel B3 X4 B3.size
  have hs4 : (w1.alloc (.cells #[.int .u8 (kk : Int), .slice a1 n1 c1] 50)).heap.size = w1.heap.size + 1 := by simp
  have g0 := F4.cell 0 _ rfl
  clear hs4
  gi_wp2_with fail
  refine ⟨trivial, (callsIn_wide.2 (known_any _ _)).mono ?_⟩
  rw [hk]
  rintro e w' ⟨rfl, e2⟩
  subst w'
  generalize w1.alloc (.cells #[.int .u8 (kk : Int), .slice a1 n1 c1] 50) = w2 at *
  obtain ⟨Y, HYY⟩ := got_no A4 C4 B4 (Nat.le_refl _) (by omega) (11)
  have HG := Go.Lib.hid HYY.2
  have HY := Go.Lib.hid HYY.1
  clear HYY
  have p0 := A4.cell 0 _ rfl
  have p1 := A4.cell 1 _ rfl
  have p2 := A4.cell 2 _ rfl
  have p3 := A4.cell 3 _ rfl
  have p4 := A4.cell 4 _ rfl
  have p5 := A4.cell 5 _ rfl
  have p6 := A4.cell 6 _ rfl
  have p7 := A4.cell 7 _ rfl
  have p8 := A4.cell 8 _ rfl
  have p9 := A4.cell 9 _ rfl
  have p10 := A4.cell 10 _ rfl
  have q0 := A4.free 0
  have q1 := A4.free 1
  have q2 := A4.free 2
  have q3 := A4.free 3
  have q4 := A4.free 4
  have q5 := A4.free 5
  have q6 := A4.free 6
  have q7 := A4.free 7
  have q8 := A4.free 8
  have q9 := A4.free 9
  have q10 := A4.free 10
  have x0 := C4.cell 0 _ rfl
  have y0 := C4.free 0
  clear A4 C4
  gi_wp2_with fail
  rw [show (((((((((((w2.setCell ⟨w.heap.size, 0, none⟩ (.int .i64 0)).setCell ⟨w.heap.size, 1, none⟩ (.int .u64 0)).setCell ⟨w.heap.size, 2, none⟩ (.int .u64 0)).setCell ⟨w.heap.size, 3, none⟩ (.int .i64 0)).setCell ⟨w.heap.size, 4, none⟩ (.int .i64 0)).setCell ⟨w.heap.size, 5, none⟩ (.int .u64 0)).setCell ⟨w.heap.size, 6, none⟩ (.int .u64 0)).setCell ⟨w.heap.size, 7, none⟩ (.int .u64 0)).setCell ⟨w.heap.size, 8, none⟩ (.int .i64 0)).setCell ⟨w.heap.size, 9, none⟩ (.slice none 0 0)).setCell ⟨w.heap.size, 10, none⟩ (.slice none 0 0)).setCell ⟨w.heap.size + 1, 0, none⟩ (.int .i64 (11)) = Y from HY.out]
  refine ⟨.tuple #[.agg (msgV mm0 none 0 none 0).toArray, .int .i64 (11)], ?_, ?_⟩
  · obtain ⟨c2k, c3k, _⟩ := HG.out
    have d0 := c2k.cell 0 _ rfl
    have d1 := c2k.cell 1 _ rfl
    have d2 := c2k.cell 2 _ rfl
    have d3 := c2k.cell 3 _ rfl
    have d4 := c2k.cell 4 _ rfl
    have d5 := c2k.cell 5 _ rfl
    have d6 := c2k.cell 6 _ rfl
    have d7 := c2k.cell 7 _ rfl
    have d8 := c2k.cell 8 _ rfl
    have d9 := c2k.cell 9 _ rfl
    have d10 := c2k.cell 10 _ rfl
    have e0 := c3k.cell 0 _ rfl
    simp [results, Tryd.results11, go_sem, d0, d1, d2, d3, d4, d5, d6, d7, d8, d9, d10, e0]
    rfl
  · exact HG.out.2.2

theorem mget_any (w : World) (hT : Tb w) (a : Option Addr) (n c : Nat) (b : List UInt8) (hr : NB.RdB w a n c b) (hl : n ≤ 100000000) :
    Calls Tryd.prog 11 #[.slice a n c] w (GotE w (mgetM b)) := by
  have hsz := NB.RdB.size hr
  obtain ⟨⟨⟨kb, bd⟩, nn, e⟩, hg⟩ : ∃ r, fgetM b = r := ⟨_, rfl⟩
  by_cases he : e = 0
  · subst he
    by_cases hn : nn < n
    · exact mget_more w hT a n c b hr hl kb bd nn hg hn
    · by_cases hk : known (kb.toNat : Int) = true
      · refine mget_main w hT a n c b hr hl kb bd nn hg hn hk ?_
        rcases get_ways b with ⟨e, he, h0, hm⟩ | ⟨x, l, -, -, hu, hb, hm⟩ | ⟨x, l, -, hu, hb, hll, hm⟩ | ⟨x, l, h, hu, hb, hll, hrr, hm⟩ | ⟨x, k, l, h, hu, hb, hll, hrr, hm⟩
        all_goals (rw [hg] at hm; cases hm)
        all_goals first | (exact absurd rfl h0) | (simp only [List.length_take]; omega) | simp
      · exact mget_odd w hT a n c b hr hl kb bd nn hg hn (by simpa using hk)
  · exact mget_bad w hT a n c b hr hl kb bd nn e he hg
end Go.Proofs.YtadgokegjmigoaaDoor
