/- The reference on dedup, walked: Put, Get. -/
import Derived.Test.YthemdfcokphjeaaDdc
import Derived.Test.YthemdfcokphjeaaNrh
namespace Go.Proofs.Ythemdfcokphjeaa
open Go.RowKit
open Go.NB (Rd Kp Stp Off Dis B64 Rr encU encB oneB dB Rw)

def RPut (w : World) (r : List UInt8 × Int) (e : Ending) (w' : World) : Prop := e = .returned (.tuple #[.string ⟨r.1.toArray⟩, .int .i64 r.2]) ∧ Below w.heap.size w w'
set_option maxHeartbeats 1000000 in
theorem rput_any (w : World) (x y : Nat) (b : List UInt8) (hx : B64 x) (hy : B64 y) (hb : b.length ≤ 100000000) :
    Calls Try.prog 10 #[.agg #[.int .u64 (x : Int), .int .u64 (y : Int), .string ⟨b.toArray⟩]] w (RPut w (putM (x, y, b))) := by
  by_cases h0 : 1024 < b.length
  · have hq : putM (x, y, b) = ([], 13) := by simp [putM, h0]
    rw [hq]
    have h0' : (1024 : Int) < (b.length : Int) := by omega
    go_enter Try.func10, Try.ntmps10
    go_wp2
    go_ret2
    exact ⟨rfl, oneB _ _⟩
  · have hq : putM (x, y, b) = (encU x ++ encU y ++ encB b, 0) := by simp [putM, h0]
    rw [hq]
    have h0' : ¬ (1024 : Int) < (b.length : Int) := by omega
    have hx9 := NB.encU_len hx
    have hy9 := NB.encU_len hy
    have hb9 := NB.encU_len (x := b.length) (by omega)
    have hb10 : (encB b).length ≤ 2000 := by simp [encB]; omega
    have n1 : ¬ (9223372036854775807 < (encU x).length + (encU y).length) := by omega
    have n2 : ¬ (9223372036854775807 < (encU x).length + ((encU y).length + (encB b).length)) := by omega
    have n3 : ¬ (9223372036854775807 < (encU x).length + (encU y).length + (encB b).length) := by omega
    have hrow := NB.rw_new w [.int .u64 (x : Int), .int .u64 (y : Int), .string ⟨b.toArray⟩] 33 rfl
    have hB := oneB w (.cells #[.int .u64 (x : Int), .int .u64 (y : Int), .string ⟨b.toArray⟩] 33)
    simp only [List.toArray] at hrow
    obtain ⟨Z, hZ⟩ : ∃ Z, Z = encU x ++ encU y ++ encB b := ⟨_, rfl⟩
    rw [← hZ]
    have HZ := Go.Lib.hid hZ; clear hZ
    go_enter Try.func10, Try.ntmps10
    go_wp2_with fail
    generalize w.alloc (.cells #[.int .u64 (x : Int), .int .u64 (y : Int), .string ⟨b.toArray⟩] 33) = w1 at *
    refine NB.wp_region_t [] (by kernel_rfl) ?_
    have row1 := hrow.below (dB w1)
    have B1 := hB.drew
    clear hrow hB
    generalize w1.drew = w2 at *
    obtain ⟨c0, c1, c2, _⟩ := NB.rw3 row1
    refine NB.t_p 0 rfl (by kernel_rfl) (fun K hK => ?_); go_simp; refine hK _ ?_; clear hK K
    refine NB.t_r 1 [2, 5, 6, 9, 10, 11, 12] rfl (by kernel_rfl) (by kernel_rfl) rfl _ (fun w' hw' => NB.run_op_load rfl rfl Try.underlying22 rfl c0 hw') (fun K hK => ?_); go_simp; refine hK _ ?_; clear hK K
    refine NB.t_p 3 rfl (by kernel_rfl) (fun K hK => ?_); go_simp; refine hK _ ?_; clear hK K
    refine NB.t_r 4 [5, 6, 9, 10, 11, 12] rfl (by kernel_rfl) (by kernel_rfl) rfl _ (fun w' hw' => NB.run_op_load rfl rfl Try.underlying22 rfl c1 hw') (fun K hK => ?_); go_simp; refine hK _ ?_; clear hK K
    refine NB.t_p 7 rfl (by kernel_rfl) (fun K hK => ?_); go_simp; refine hK _ ?_; clear hK K
    refine NB.t_r 8 [9, 10, 11, 12] rfl (by kernel_rfl) (by kernel_rfl) rfl _ (fun w' hw' => NB.run_op_load rfl rfl Try.underlying9 rfl c2 hw') (fun K hK => ?_); go_simp; refine hK _ ?_; clear hK K
    refine NB.t_e 2 rfl (by kernel_rfl) (by kernel_rfl) (fun K hK => ?_); unfold NB.tmoves; go_simp; refine (ruintR_any _ x hx).mono ?_; rintro e w3 ⟨rfl, hb3⟩; refine ⟨_, rfl, hb3, hK _ _ ?_⟩; clear hK K
    refine NB.t_e 5 rfl (by kernel_rfl) (by kernel_rfl) (fun K hK => ?_); unfold NB.tmoves; go_simp; refine (ruintR_any _ y hy).mono ?_; rintro e w4 ⟨rfl, hb4⟩; refine ⟨_, rfl, hb4, hK _ _ ?_⟩; clear hK K
    refine NB.t_p 6 rfl (by kernel_rfl) (fun K hK => ?_); go_simp; refine hK _ ?_; clear hK K
    refine NB.t_e 9 rfl (by kernel_rfl) (by kernel_rfl) (fun K hK => ?_); unfold NB.tmoves; go_simp; refine (rbytesR_any _ b hb).mono ?_; rintro e w5 ⟨rfl, hb5⟩; refine ⟨_, rfl, hb5, hK _ _ ?_⟩; clear hK K
    refine NB.t_p 10 rfl (by kernel_rfl) (fun K hK => ?_); go_simp; refine hK _ ?_; clear hK K
    refine NB.t_p 11 rfl (by kernel_rfl) (fun K hK => ?_); go_simp; refine hK _ ?_; clear hK K
    refine NB.t_p 12 rfl (by kernel_rfl) (fun K hK => ?_); go_simp; refine hK _ ?_; clear hK K
    refine NB.t_end (by kernel_rfl) ?_
    go_wp2_with fail
    go_ret2
    have B3 := NB.bel B1 hb3 B1.size
    have B4 := NB.bel B3 hb4 B3.size
    exact ⟨by rw [HZ.out]; simp, NB.bel B4 hb5 B4.size⟩

def RGet (w : World) (r : En × Int) (e : Ending) (w' : World) : Prop := e = .returned (.tuple #[.agg #[.int .u64 (r.1.1 : Int), .int .u64 (r.1.2.1 : Int), .string ⟨r.1.2.2.toArray⟩], .int .i64 r.2]) ∧ Below w.heap.size w w'
set_option maxHeartbeats 1000000 in
theorem rget_any (w : World) (b : List UInt8) (hl : b.length ≤ 100000000) :
    Calls Try.prog 12 #[.string ⟨b.toArray⟩] w (RGet w (getM b)) := by
  have hu1 := uint_left ⟨b, 0⟩
  have hu2 := uint_left (Rr.uint ⟨b, 0⟩).1
  have hq : getM b = if (((Rr.uint ⟨b, 0⟩).1.uint).1.bytes 1024).1.fin ≠ 0 then ((0, 0, []), (((Rr.uint ⟨b, 0⟩).1.uint).1.bytes 1024).1.fin) else (((Rr.uint ⟨b, 0⟩).2, ((Rr.uint ⟨b, 0⟩).1.uint).2, (((Rr.uint ⟨b, 0⟩).1.uint).1.bytes 1024).2), 0) := rfl
  have ct1 := fun w => refRead_any w ⟨b, 0⟩ hl
  generalize Rr.uint ⟨b, 0⟩ = u at *
  have ct2 := fun w => refRead_any w u.1 (by simp at hu1; omega)
  generalize u.1.uint = v at *
  have ct3 := fun w => refRB_any w v.1 1024 (by omega) (by simp at hu1; omega)
  generalize v.1.bytes 1024 = t at *
  have ct4 := fun w => refEnd_any w t.1
  unfold refR at ct1 ct2 ct3 ct4
  have HQ := Go.Lib.hid hq; have C1 := Go.Lib.hid ct1; have C2 := Go.Lib.hid ct2; have C3 := Go.Lib.hid ct3; have C4 := Go.Lib.hid ct4
  clear hq ct1 ct2 ct3 ct4 hu1 hu2
  generalize getM b = R at *
  go_enter Try.func12, Try.ntmps12
  go_wp2_with fail
  refine (C1.out _).mono ?_
  rintro e w1 ⟨rfl, hb1⟩
  have hA1 := (NB.rw_new w [.int .u64 0, .int .u64 0, .string ⟨#[]⟩] 33 rfl).below hb1
  have B1 := NB.bel (oneB _ _) hb1 (oneB w (.cells #[.int .u64 0, .int .u64 0, .string ⟨#[]⟩] 33)).size
  clear hb1
  have hR2 := NB.rw_new w1 [.string ⟨u.1.b.toArray⟩, .int .i64 u.1.e] 75 rfl
  have ob := oneB w1 (.cells #[.string ⟨u.1.b.toArray⟩, .int .i64 u.1.e] 75)
  have hA2 := hA1.below ob
  have B2 := NB.bel B1 ob B1.size
  have hGA := B1.size
  have hne : w1.heap.size ≠ w.heap.size := by have := hA1.lt; omega
  simp only [List.toArray] at hR2
  clear hA1 B1 ob
  go_wp2_with fail
  generalize w1.alloc (.cells #[.string ⟨u.1.b.toArray⟩, .int .i64 u.1.e] 75) = w2 at *
  generalize w1.heap.size = G at *
  refine (C2.out _).mono ?_
  rintro e w3 ⟨rfl, hb3⟩
  have hA3 := hA2.below hb3
  have hR3 := hR2.below hb3
  have B3 := NB.bel B2 hb3 B2.size
  obtain ⟨c0, c1, f0, f1⟩ := NB.rw2 hR3
  clear hA2 hR2 B2 hb3
  go_wp2_with fail
  have hR4 := (hR3.set 0 (.string ⟨v.1.b.toArray⟩)).set 1 (.int .i64 v.1.e)
  have hA4 := (hA3.other (Ne.symm hne) 0 (.string ⟨v.1.b.toArray⟩)).other (Ne.symm hne) 1 (.int .i64 v.1.e)
  have B4 := (B3.setCell (p := ⟨G, 0, none⟩) hGA (.string ⟨v.1.b.toArray⟩)).setCell (p := ⟨G, 1, none⟩) hGA (.int .i64 v.1.e)
  clear hA3 hR3 B3 c0 c1 f0 f1
  generalize (w3.setCell ⟨G, 0, none⟩ (.string ⟨v.1.b.toArray⟩)).setCell ⟨G, 1, none⟩ (.int .i64 v.1.e) = w4 at *
  refine (C3.out _).mono ?_
  rintro e w5 ⟨rfl, hb5⟩
  have hA5 := hA4.below hb5
  have hR5 := hR4.below hb5
  have B5 := NB.bel B4 hb5 B4.size
  obtain ⟨c0, c1, f0, f1⟩ := NB.rw2 hR5
  clear hA4 hR4 B4 hb5
  go_wp2_with fail
  have hR6 := (hR5.set 0 (.string ⟨t.1.b.toArray⟩)).set 1 (.int .i64 t.1.e)
  have hA6 := (hA5.other (Ne.symm hne) 0 (.string ⟨t.1.b.toArray⟩)).other (Ne.symm hne) 1 (.int .i64 t.1.e)
  have B6 := (B5.setCell (p := ⟨G, 0, none⟩) hGA (.string ⟨t.1.b.toArray⟩)).setCell (p := ⟨G, 1, none⟩) hGA (.int .i64 t.1.e)
  clear hA5 hR5 B5 c0 c1 f0 f1
  generalize (w5.setCell ⟨G, 0, none⟩ (.string ⟨t.1.b.toArray⟩)).setCell ⟨G, 1, none⟩ (.int .i64 t.1.e) = w6 at *
  refine (C4.out _).mono ?_
  rintro e w7 ⟨rfl, hb7⟩
  have hA7 := hA6.below hb7
  have B7 := NB.bel B6 hb7 B6.size
  obtain ⟨d0, d1, d2, g0, g1, g2⟩ := NB.rw3 hA7
  have hltA := hA7.lt
  clear hA6 hR6 B6 hb7 C1 C2 C3 C4 hA7
  by_cases hf : t.1.fin = 0
  · have hfb : (t.1.fin != 0) = false := by simp [hf]
    have hR : R = ((u.2, v.2, t.2), 0) := by rw [HQ.out, if_neg (by simp [hf])]
    have HF := Go.Lib.hid hf; clear hf HQ
    go_wp2_with fail
    refine bodyPost_ret (v := .tuple #[.agg #[.int .u64 (u.2 : Int), .int .u64 (v.2 : Int), .string ⟨t.2.toArray⟩], .int .i64 0]) (by simp [results, Try.results12, go_sem, d0, d1, d2, hltA]) rfl ?_
    rw [hR]
    exact ⟨rfl, ((B7.setCell (p := ⟨w.heap.size, 0, none⟩) (Nat.le_refl _) (.int .u64 (u.2 : Int))).setCell (p := ⟨w.heap.size, 1, none⟩) (Nat.le_refl _) (.int .u64 (v.2 : Int))).setCell (p := ⟨w.heap.size, 2, none⟩) (Nat.le_refl _) (.string ⟨t.2.toArray⟩)⟩
  · have hfb : (t.1.fin != 0) = true := by simp [hf]
    have hR : R = ((0, 0, []), t.1.fin) := by rw [HQ.out, if_pos hf]
    have HF := Go.Lib.hid hf; clear hf HQ
    go_wp2_with fail
    refine bodyPost_ret (v := .tuple #[.agg #[.int .u64 0, .int .u64 0, .string ⟨#[]⟩], .int .i64 t.1.fin]) (by simp [results, Try.results12, go_sem, d0, d1, d2, hltA]) rfl ?_
    rw [hR]
    exact ⟨rfl, ((B7.setCell (p := ⟨w.heap.size, 0, none⟩) (Nat.le_refl _) (.int .u64 0)).setCell (p := ⟨w.heap.size, 1, none⟩) (Nat.le_refl _) (.int .u64 0)).setCell (p := ⟨w.heap.size, 2, none⟩) (Nat.le_refl _) (.string ⟨#[]⟩)⟩
end Go.Proofs.Ythemdfcokphjeaa
