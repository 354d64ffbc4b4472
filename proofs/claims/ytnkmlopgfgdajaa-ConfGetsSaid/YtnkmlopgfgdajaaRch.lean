/- The reference's Get on commands, by ops. -/
import Derived.Test.YtnkmlopgfgdajaaRcd
namespace Go.Proofs.Ytnkmlopgfgdajaa
open Go.RowKit
open Go.NB (Rd RdU Kp Stp Dis Rr Rw oneB dB encU)

set_option maxRecDepth 100000 in
set_option maxHeartbeats 8000000 in
theorem rcget_k3 (w : World) (y : UInt8) (b : List UInt8) (hn8 : (y :: b).length ≤ 1000000) (hy : y.toNat = 3) : Calls Try.prog 12 #[.string ⟨(y :: b).toArray⟩] w (GetC w (getM (y :: b))) := by
  obtain ⟨m0, hm0⟩ : ∃ m0 : Rr, m0 = ⟨b, 0⟩ := ⟨_, rfl⟩
  have hP : fieldsP 3 m0 = (((((((m0).uint).1).uint).1).uint).1, ⟨3, ((m0).uint).2, ((((m0).uint).1).uint).2, 0, 0, ((((((m0).uint).1).uint).1).uint).2, []⟩) := rfl
  have hl0 : m0.b.length ≤ 1000000 := by rw [hm0]; simp only [List.length_cons] at hn8; simp only; omega
  have hl1 := ruint_left m0
  have q1 := fun w => refRead_any w m0 (by omega)
  unfold refR RefRU at q1
  generalize Rr.uint m0 = U1 at *
  obtain ⟨m1, cl⟩ := U1
  simp only at q1 hP hl1
  have Q1 := Go.Lib.hid q1
  clear q1
  have hl2 := ruint_left m1
  have q2 := fun w => refRead_any w m1 (by omega)
  unfold refR RefRU at q2
  generalize Rr.uint m1 = U2 at *
  obtain ⟨m2, sq⟩ := U2
  simp only at q2 hP hl2
  have Q2 := Go.Lib.hid q2
  clear q2
  have hl3 := ruint_left m2
  have q3 := fun w => refRead_any w m2 (by omega)
  unfold refR RefRU at q3
  generalize Rr.uint m2 = U3 at *
  obtain ⟨m3, ps⟩ := U3
  simp only at q3 hP hl3
  have Q3 := Go.Lib.hid q3
  clear q3
  rw [hm0] at hP
  have hgm := getM_fin hy (by omega) hP
  have HGM := Go.Lib.hid hgm; have HM0 := Go.Lib.hid hm0
  have hyi : (y.toNat : Int) = 3 := by omega
  have hyy : ∀ h, (ByteArray.mk (y :: b).toArray)[0]'h = y := fun _ => rfl
  clear hP hgm hm0 hy
  obtain ⟨G, hG⟩ : ∃ G, getM (y :: b) = G := ⟨_, rfl⟩
  rw [hG]
  have HG := Go.Lib.hid hG
  clear hG
  have ob := oneB w (.cells #[Value.int .i64 0, .int .u64 0, .int .u64 0, .int .i64 0, .int .i64 0, .int .u64 0, .slice none 0 0] 33)
  have r2 := NB.rw_new w [Value.int .i64 0, .int .u64 0, .int .u64 0, .int .i64 0, .int .i64 0, .int .u64 0, .slice none 0 0] 33 rfl
  simp only [List.toArray] at r2
  have hbl : b.length ≤ 1000000 := by simp only [List.length_cons] at hn8; omega
  have hg2 : Rw (((w.alloc (.cells #[Value.int .i64 0, .int .u64 0, .int .u64 0, .int .i64 0, .int .i64 0, .int .u64 0, .slice none 0 0] 33)).alloc (.cells #[Value.int .i64 3, .int .u64 0, .int .u64 0, .int .i64 0, .int .i64 0, .int .u64 0, .slice none 0 0] 33)).alloc (.cells #[.string ⟨b.toArray⟩, .int .i64 0] 69)) w.heap.size [Value.int .i64 0, .int .u64 0, .int .u64 0, .int .i64 0, .int .i64 0, .int .u64 0, .slice none 0 0] 33 := (r2.below (oneB _ _)).below (oneB _ _)
  have I : RGetI w w.heap.size (w.heap.size + 1) (w.heap.size + 2) [Value.int .i64 3, .int .u64 0, .int .u64 0, .int .i64 0, .int .i64 0, .int .u64 0, .slice none 0 0] m0 (((w.alloc (.cells #[Value.int .i64 0, .int .u64 0, .int .u64 0, .int .i64 0, .int .i64 0, .int .u64 0, .slice none 0 0] 33)).alloc (.cells #[Value.int .i64 3, .int .u64 0, .int .u64 0, .int .i64 0, .int .i64 0, .int .u64 0, .slice none 0 0] 33)).alloc (.cells #[.string ⟨b.toArray⟩, .int .i64 0] 69)) :=
    ⟨hg2, (NB.rw_new (w.alloc (.cells #[Value.int .i64 0, .int .u64 0, .int .u64 0, .int .i64 0, .int .i64 0, .int .u64 0, .slice none 0 0] 33)) [Value.int .i64 3, .int .u64 0, .int .u64 0, .int .i64 0, .int .i64 0, .int .u64 0, .slice none 0 0] 33 (by simp)).below (oneB _ _), by rw [HM0.out]; exact NB.rw_new ((w.alloc (.cells #[Value.int .i64 0, .int .u64 0, .int .u64 0, .int .i64 0, .int .i64 0, .int .u64 0, .slice none 0 0] 33)).alloc (.cells #[Value.int .i64 3, .int .u64 0, .int .u64 0, .int .i64 0, .int .i64 0, .int .u64 0, .slice none 0 0] 33)) [.string ⟨b.toArray⟩, .int .i64 0] 69 (by simp), by omega, by omega, by omega, Nat.le_refl _, by omega, by omega, (ob.alloc ob.size _).alloc (by simp; omega) _⟩
  clear r2 ob hg2
  go_enter Try.func12, Try.ntmps12
  go_wp2_with fail
  clear hyi hyy
  generalize (((w.alloc (.cells #[Value.int .i64 0, .int .u64 0, .int .u64 0, .int .i64 0, .int .i64 0, .int .u64 0, .slice none 0 0] 33)).alloc (.cells #[Value.int .i64 3, .int .u64 0, .int .u64 0, .int .i64 0, .int .i64 0, .int .u64 0, .slice none 0 0] 33)).alloc (.cells #[.string ⟨b.toArray⟩, .int .i64 0] 69)) = w6 at *
  rw [HM0.out] at Q1
  refine (Q1.out _).mono ?_
  rintro e x1 ⟨rfl, hbx⟩
  have I1 := I.below hbx
  have I2 := I1.setR m1
  have I3 := I2.set 1 (.int .u64 (cl : Int))
  simp only [List.set] at I3
  obtain ⟨p0, p1, n0, n1⟩ := NB.rw2 I1.r5
  obtain ⟨c0, c1, c2, c3', c4, c5, c6, f0, f1, f2, f3, f4, f5, f6⟩ := NB.rw7 I2.r4
  obtain ⟨e0, e1, e2, e3, e4, e5, e6, _⟩ := NB.rw7 I3.r4
  obtain ⟨o0, o1, _⟩ := NB.rw2 I3.r5
  clear I I1 I2 hbx
  go_wp2_with fail
  clear p0 p1 n0 n1 c0 c1 c2 c3' c4 c5 c6 f0 f1 f2 f3 f4 f5 f6 e0 e1 e2 e3 e4 e5 e6 o0 o1
  have I := I3
  clear I3
  generalize ((x1.setCell ⟨w.heap.size + 2, 0, none⟩ (.string ⟨m1.b.toArray⟩)).setCell ⟨w.heap.size + 2, 1, none⟩ (.int .i64 m1.e)).setCell ⟨w.heap.size + 1, 1, none⟩ (.int .u64 (cl : Int)) = y1 at *
  refine (Q2.out _).mono ?_
  rintro e x2 ⟨rfl, hbx⟩
  have I1 := I.below hbx
  have I2 := I1.setR m2
  have I3 := I2.set 2 (.int .u64 (sq : Int))
  simp only [List.set] at I3
  obtain ⟨p0, p1, n0, n1⟩ := NB.rw2 I1.r5
  obtain ⟨c0, c1, c2, c3', c4, c5, c6, f0, f1, f2, f3, f4, f5, f6⟩ := NB.rw7 I2.r4
  obtain ⟨e0, e1, e2, e3, e4, e5, e6, _⟩ := NB.rw7 I3.r4
  obtain ⟨o0, o1, _⟩ := NB.rw2 I3.r5
  clear I I1 I2 hbx
  go_wp2_with fail
  clear p0 p1 n0 n1 c0 c1 c2 c3' c4 c5 c6 f0 f1 f2 f3 f4 f5 f6 e0 e1 e2 e3 e4 e5 e6 o0 o1
  have I := I3
  clear I3
  generalize ((x2.setCell ⟨w.heap.size + 2, 0, none⟩ (.string ⟨m2.b.toArray⟩)).setCell ⟨w.heap.size + 2, 1, none⟩ (.int .i64 m2.e)).setCell ⟨w.heap.size + 1, 2, none⟩ (.int .u64 (sq : Int)) = y2 at *
  refine (Q3.out _).mono ?_
  rintro e x3 ⟨rfl, hbx⟩
  have I1 := I.below hbx
  have I2 := I1.setR m3
  have I3 := I2.set 5 (.int .u64 (ps : Int))
  simp only [List.set] at I3
  obtain ⟨p0, p1, n0, n1⟩ := NB.rw2 I1.r5
  obtain ⟨c0, c1, c2, c3', c4, c5, c6, f0, f1, f2, f3, f4, f5, f6⟩ := NB.rw7 I2.r4
  obtain ⟨e0, e1, e2, e3, e4, e5, e6, _⟩ := NB.rw7 I3.r4
  obtain ⟨o0, o1, _⟩ := NB.rw2 I3.r5
  clear I I1 I2 hbx
  go_wp2_with fail
  clear p0 p1 n0 n1 c0 c1 c2 c3' c4 c5 c6 f0 f1 f2 f3 f4 f5 f6 e0 e1 e2 e3 e4 e5 e6 o0 o1
  have I := I3
  clear I3
  generalize ((x3.setCell ⟨w.heap.size + 2, 0, none⟩ (.string ⟨m3.b.toArray⟩)).setCell ⟨w.heap.size + 2, 1, none⟩ (.int .i64 m3.e)).setCell ⟨w.heap.size + 1, 5, none⟩ (.int .u64 (ps : Int)) = y3 at *
  have hW : RdW y3 none 0 0 [] := ⟨Rd.nil_mk, fun x hx => nomatch hx⟩
  have far2 : FarW (fun k => k = w.heap.size) none [] := ⟨(fun b o e => nomatch e), (fun x hx => nomatch hx)⟩
  have FAR := Go.Lib.hid far2
  clear far2
  have hG : G = if m3.fin ≠ 0 then (cm0, m3.fin) else if checkB (cmOf 3 cl sq 0 0 ps []) = true then ((cmOf 3 cl sq 0 0 ps []), 0) else (cm0, 11) := by
    rw [← HG.out, HGM.out]
    rfl
  have HGG := Go.Lib.hid hG
  clear hG HGM HG
  have cn := fun w => refEnd_any w m3
  unfold refR at cn
  skip
  generalize m3.fin = mf at *
  have CN := Go.Lib.hid cn; clear cn
  by_cases hf : mf = 0
  case neg =>
    have hne : (mf != 0) = true := by simpa using hf
    have hg : G = (cm0, mf) := by rw [HGG.out, if_pos hf]
    have HGE := Go.Lib.hid hg
    clear hg hf HGG
    refine (CN.out _).mono ?_
    rintro e z1 ⟨rfl, hbz⟩
    have Iz := I.below hbz
    have Bz := Iz.bel
    have rz := Iz.r2
    clear I hbz
    obtain ⟨c0, c1, c2, c3', c4, c5, c6, f0, f1, f2, f3, f4, f5, f6⟩ := NB.rw7 rz
    go_wp2_with fail
    have r9 := (((((((rz.set 0 (.int .i64 0)).set 1 (.int .u64 0)).set 2 (.int .u64 0)).set 3 (.int .i64 0)).set 4 (.int .i64 0)).set 5 (.int .u64 0)).set 6 (.slice none 0 0))
    simp only [List.set] at r9
    have B9 : Below w.heap.size w (((((((z1.setCell ⟨w.heap.size, 0, none⟩ (.int .i64 0)).setCell ⟨w.heap.size, 1, none⟩ (.int .u64 0)).setCell ⟨w.heap.size, 2, none⟩ (.int .u64 0)).setCell ⟨w.heap.size, 3, none⟩ (.int .i64 0)).setCell ⟨w.heap.size, 4, none⟩ (.int .i64 0)).setCell ⟨w.heap.size, 5, none⟩ (.int .u64 0)).setCell ⟨w.heap.size, 6, none⟩ (.slice none 0 0)) := (((((((Bz.setCell (p := ⟨_, 0, none⟩) (Nat.le_refl _) (.int .i64 0)).setCell (p := ⟨_, 1, none⟩) (Nat.le_refl _) (.int .u64 0)).setCell (p := ⟨_, 2, none⟩) (Nat.le_refl _) (.int .u64 0)).setCell (p := ⟨_, 3, none⟩) (Nat.le_refl _) (.int .i64 0)).setCell (p := ⟨_, 4, none⟩) (Nat.le_refl _) (.int .i64 0)).setCell (p := ⟨_, 5, none⟩) (Nat.le_refl _) (.int .u64 0)).setCell (p := ⟨_, 6, none⟩) (Nat.le_refl _) (.slice none 0 0))
    generalize (((((((z1.setCell ⟨w.heap.size, 0, none⟩ (.int .i64 0)).setCell ⟨w.heap.size, 1, none⟩ (.int .u64 0)).setCell ⟨w.heap.size, 2, none⟩ (.int .u64 0)).setCell ⟨w.heap.size, 3, none⟩ (.int .i64 0)).setCell ⟨w.heap.size, 4, none⟩ (.int .i64 0)).setCell ⟨w.heap.size, 5, none⟩ (.int .u64 0)).setCell ⟨w.heap.size, 6, none⟩ (.slice none 0 0)) = w9 at *
    obtain ⟨d0, d1, d2, d3, d4, d5, d6, _⟩ := NB.rw7 r9
    have hlt9 := r9.lt
    refine bodyPost_ret (v := .tuple #[.agg #[Value.int .i64 0, .int .u64 0, .int .u64 0, .int .i64 0, .int .i64 0, .int .u64 0, .slice none 0 0], .int .i64 mf]) (by simp [results, Try.results12, go_sem, d0, d1, d2, d3, d4, d5, d6, hlt9]) rfl ?_
    rw [HGE.out]
    exact getC_no B9
  subst hf
  have hg : G = if checkB (cmOf 3 cl sq 0 0 ps []) = true then ((cmOf 3 cl sq 0 0 ps []), 0) else (cm0, 11) := by rw [HGG.out, if_neg (fun h => h rfl)]
  have HGE := Go.Lib.hid hg
  clear hg HGG
  refine (CN.out _).mono ?_
  rintro e z1 ⟨rfl, hbz⟩
  have Iz := I.below hbz
  have hWz := hW.below hbz
  clear I hbz hW
  obtain ⟨e0, e1, e2, e3, e4, e5, e6, _⟩ := NB.rw7 Iz.r4
  have cc := rcheck_any z1 3 0 0 cl sq ps 0 0 none [] hWz
  unfold checkM at cc
  go_wp2_with fail
  clear e0 e1 e2 e3 e4 e5 e6
  cases hk : checkB (cmOf 3 cl sq 0 0 ps []) with
  | false =>
    rw [hk] at cc
    have hg : G = (cm0, 11) := by rw [HGE.out, hk]; rfl
    have HGF := Go.Lib.hid hg
    clear hg hk HGE
    refine cc.mono ?_
    rintro e z2 ⟨rfl, hbz⟩
    simp only [Bool.false_eq_true, if_false]
    have I2 := Iz.below hbz
    have rz := I2.r2
    have Bz := I2.bel
    clear cc Iz hbz hWz
    obtain ⟨c0, c1, c2, c3', c4, c5, c6, f0, f1, f2, f3, f4, f5, f6⟩ := NB.rw7 rz
    go_wp2_with fail
    have r9 := (((((((rz.set 0 (.int .i64 0)).set 1 (.int .u64 0)).set 2 (.int .u64 0)).set 3 (.int .i64 0)).set 4 (.int .i64 0)).set 5 (.int .u64 0)).set 6 (.slice none 0 0))
    simp only [List.set] at r9
    have B9 : Below w.heap.size w (((((((z2.setCell ⟨w.heap.size, 0, none⟩ (.int .i64 0)).setCell ⟨w.heap.size, 1, none⟩ (.int .u64 0)).setCell ⟨w.heap.size, 2, none⟩ (.int .u64 0)).setCell ⟨w.heap.size, 3, none⟩ (.int .i64 0)).setCell ⟨w.heap.size, 4, none⟩ (.int .i64 0)).setCell ⟨w.heap.size, 5, none⟩ (.int .u64 0)).setCell ⟨w.heap.size, 6, none⟩ (.slice none 0 0)) := (((((((Bz.setCell (p := ⟨_, 0, none⟩) (Nat.le_refl _) (.int .i64 0)).setCell (p := ⟨_, 1, none⟩) (Nat.le_refl _) (.int .u64 0)).setCell (p := ⟨_, 2, none⟩) (Nat.le_refl _) (.int .u64 0)).setCell (p := ⟨_, 3, none⟩) (Nat.le_refl _) (.int .i64 0)).setCell (p := ⟨_, 4, none⟩) (Nat.le_refl _) (.int .i64 0)).setCell (p := ⟨_, 5, none⟩) (Nat.le_refl _) (.int .u64 0)).setCell (p := ⟨_, 6, none⟩) (Nat.le_refl _) (.slice none 0 0))
    generalize (((((((z2.setCell ⟨w.heap.size, 0, none⟩ (.int .i64 0)).setCell ⟨w.heap.size, 1, none⟩ (.int .u64 0)).setCell ⟨w.heap.size, 2, none⟩ (.int .u64 0)).setCell ⟨w.heap.size, 3, none⟩ (.int .i64 0)).setCell ⟨w.heap.size, 4, none⟩ (.int .i64 0)).setCell ⟨w.heap.size, 5, none⟩ (.int .u64 0)).setCell ⟨w.heap.size, 6, none⟩ (.slice none 0 0)) = w9 at *
    obtain ⟨d0, d1, d2, d3, d4, d5, d6, _⟩ := NB.rw7 r9
    have hlt9 := r9.lt
    refine bodyPost_ret (v := .tuple #[.agg #[Value.int .i64 0, .int .u64 0, .int .u64 0, .int .i64 0, .int .i64 0, .int .u64 0, .slice none 0 0], .int .i64 11]) (by simp [results, Try.results12, go_sem, d0, d1, d2, d3, d4, d5, d6, hlt9]) rfl ?_
    rw [HGF.out]
    exact getC_no B9
  | true =>
    rw [hk] at cc
    have hg : G = ((cmOf 3 cl sq 0 0 ps []), 0) := by rw [HGE.out, hk]; rfl
    have HGF := Go.Lib.hid hg
    clear hg hk HGE
    refine cc.mono ?_
    rintro e z2 ⟨rfl, hbz⟩
    simp only [if_true]
    have I2 := Iz.below hbz
    have rz := I2.r2
    have Bz := I2.bel
    have hW2 := hWz.below hbz
    clear cc Iz hbz hWz
    obtain ⟨c0, c1, c2, c3', c4, c5, c6, f0, f1, f2, f3, f4, f5, f6⟩ := NB.rw7 rz
    obtain ⟨e0, e1, e2, e3, e4, e5, e6, _⟩ := NB.rw7 I2.r4
    go_wp2_with fail
    have r9 := (((((((rz.set 0 (.int .i64 3)).set 1 (.int .u64 (cl : Int))).set 2 (.int .u64 (sq : Int))).set 3 (.int .i64 0)).set 4 (.int .i64 0)).set 5 (.int .u64 (ps : Int))).set 6 (.slice none 0 0))
    simp only [List.set] at r9
    have B9 : Below w.heap.size w (((((((z2.setCell ⟨w.heap.size, 0, none⟩ (.int .i64 3)).setCell ⟨w.heap.size, 1, none⟩ (.int .u64 (cl : Int))).setCell ⟨w.heap.size, 2, none⟩ (.int .u64 (sq : Int))).setCell ⟨w.heap.size, 3, none⟩ (.int .i64 0)).setCell ⟨w.heap.size, 4, none⟩ (.int .i64 0)).setCell ⟨w.heap.size, 5, none⟩ (.int .u64 (ps : Int))).setCell ⟨w.heap.size, 6, none⟩ (.slice none 0 0)) := (((((((Bz.setCell (p := ⟨_, 0, none⟩) (Nat.le_refl _) (.int .i64 3)).setCell (p := ⟨_, 1, none⟩) (Nat.le_refl _) (.int .u64 (cl : Int))).setCell (p := ⟨_, 2, none⟩) (Nat.le_refl _) (.int .u64 (sq : Int))).setCell (p := ⟨_, 3, none⟩) (Nat.le_refl _) (.int .i64 0)).setCell (p := ⟨_, 4, none⟩) (Nat.le_refl _) (.int .i64 0)).setCell (p := ⟨_, 5, none⟩) (Nat.le_refl _) (.int .u64 (ps : Int))).setCell (p := ⟨_, 6, none⟩) (Nat.le_refl _) (.slice none 0 0))
    have kz : Kp (fun k => k = w.heap.size) z2 (((((((z2.setCell ⟨w.heap.size, 0, none⟩ (.int .i64 3)).setCell ⟨w.heap.size, 1, none⟩ (.int .u64 (cl : Int))).setCell ⟨w.heap.size, 2, none⟩ (.int .u64 (sq : Int))).setCell ⟨w.heap.size, 3, none⟩ (.int .i64 0)).setCell ⟨w.heap.size, 4, none⟩ (.int .i64 0)).setCell ⟨w.heap.size, 5, none⟩ (.int .u64 (ps : Int))).setCell ⟨w.heap.size, 6, none⟩ (.slice none 0 0)) := ((((((((NB.Kp.refl (fun k => k = w.heap.size) z2).setCell (x := ⟨w.heap.size, 0, none⟩) (.inl rfl) (.int .i64 3)).setCell (x := ⟨w.heap.size, 1, none⟩) (.inl rfl) (.int .u64 (cl : Int))).setCell (x := ⟨w.heap.size, 2, none⟩) (.inl rfl) (.int .u64 (sq : Int))).setCell (x := ⟨w.heap.size, 3, none⟩) (.inl rfl) (.int .i64 0)).setCell (x := ⟨w.heap.size, 4, none⟩) (.inl rfl) (.int .i64 0)).setCell (x := ⟨w.heap.size, 5, none⟩) (.inl rfl) (.int .u64 (ps : Int))).setCell (x := ⟨w.heap.size, 6, none⟩) (.inl rfl) (.slice none 0 0))
    have hW9 := hW2.kp kz FAR.out
    clear kz
    generalize (((((((z2.setCell ⟨w.heap.size, 0, none⟩ (.int .i64 3)).setCell ⟨w.heap.size, 1, none⟩ (.int .u64 (cl : Int))).setCell ⟨w.heap.size, 2, none⟩ (.int .u64 (sq : Int))).setCell ⟨w.heap.size, 3, none⟩ (.int .i64 0)).setCell ⟨w.heap.size, 4, none⟩ (.int .i64 0)).setCell ⟨w.heap.size, 5, none⟩ (.int .u64 (ps : Int))).setCell ⟨w.heap.size, 6, none⟩ (.slice none 0 0)) = w9 at *
    obtain ⟨d0, d1, d2, d3, d4, d5, d6, _⟩ := NB.rw7 r9
    have hlt9 := r9.lt
    refine bodyPost_ret (v := .tuple #[.agg #[.int .i64 3, .int .u64 (cl : Int), .int .u64 (sq : Int), .int .i64 0, .int .i64 0, .int .u64 (ps : Int), .slice none 0 0], .int .i64 0]) (by simp [results, Try.results12, go_sem, d0, d1, d2, d3, d4, d5, d6, hlt9]) rfl ?_
    rw [HGF.out]
    exact ⟨none, 0, [], rfl, hW9, rfl, B9⟩

set_option maxRecDepth 100000 in
set_option maxHeartbeats 8000000 in
theorem rcget_k4 (w : World) (y : UInt8) (b : List UInt8) (hn8 : (y :: b).length ≤ 1000000) (hy : y.toNat = 4) : Calls Try.prog 12 #[.string ⟨(y :: b).toArray⟩] w (GetC w (getM (y :: b))) := by
  obtain ⟨m0, hm0⟩ : ∃ m0 : Rr, m0 = ⟨b, 0⟩ := ⟨_, rfl⟩
  have hP : fieldsP 4 m0 = (((rowsP m0)).1, ⟨4, 0, 0, 0, 0, 0, ((rowsP m0)).2⟩) := rfl
  have hl0 : m0.b.length ≤ 1000000 := by rw [hm0]; simp only [List.length_cons] at hn8; simp only; omega
  have q1 := fun w => rrows_any w m0 (by omega)
  unfold RefRows at q1
  generalize rowsP m0 = U1 at *
  obtain ⟨m1, rl⟩ := U1
  simp only at q1 hP
  have Q1 := Go.Lib.hid q1
  clear q1
  rw [hm0] at hP
  have hgm := getM_fin hy (by omega) hP
  have HGM := Go.Lib.hid hgm; have HM0 := Go.Lib.hid hm0
  have hyi : (y.toNat : Int) = 4 := by omega
  have hyy : ∀ h, (ByteArray.mk (y :: b).toArray)[0]'h = y := fun _ => rfl
  clear hP hgm hm0 hy
  obtain ⟨G, hG⟩ : ∃ G, getM (y :: b) = G := ⟨_, rfl⟩
  rw [hG]
  have HG := Go.Lib.hid hG
  clear hG
  have ob := oneB w (.cells #[Value.int .i64 0, .int .u64 0, .int .u64 0, .int .i64 0, .int .i64 0, .int .u64 0, .slice none 0 0] 33)
  have r2 := NB.rw_new w [Value.int .i64 0, .int .u64 0, .int .u64 0, .int .i64 0, .int .i64 0, .int .u64 0, .slice none 0 0] 33 rfl
  simp only [List.toArray] at r2
  have hbl : b.length ≤ 1000000 := by simp only [List.length_cons] at hn8; omega
  have hg2 : Rw (((w.alloc (.cells #[Value.int .i64 0, .int .u64 0, .int .u64 0, .int .i64 0, .int .i64 0, .int .u64 0, .slice none 0 0] 33)).alloc (.cells #[Value.int .i64 4, .int .u64 0, .int .u64 0, .int .i64 0, .int .i64 0, .int .u64 0, .slice none 0 0] 33)).alloc (.cells #[.string ⟨b.toArray⟩, .int .i64 0] 69)) w.heap.size [Value.int .i64 0, .int .u64 0, .int .u64 0, .int .i64 0, .int .i64 0, .int .u64 0, .slice none 0 0] 33 := (r2.below (oneB _ _)).below (oneB _ _)
  have I : RGetI w w.heap.size (w.heap.size + 1) (w.heap.size + 2) [Value.int .i64 4, .int .u64 0, .int .u64 0, .int .i64 0, .int .i64 0, .int .u64 0, .slice none 0 0] m0 (((w.alloc (.cells #[Value.int .i64 0, .int .u64 0, .int .u64 0, .int .i64 0, .int .i64 0, .int .u64 0, .slice none 0 0] 33)).alloc (.cells #[Value.int .i64 4, .int .u64 0, .int .u64 0, .int .i64 0, .int .i64 0, .int .u64 0, .slice none 0 0] 33)).alloc (.cells #[.string ⟨b.toArray⟩, .int .i64 0] 69)) :=
    ⟨hg2, (NB.rw_new (w.alloc (.cells #[Value.int .i64 0, .int .u64 0, .int .u64 0, .int .i64 0, .int .i64 0, .int .u64 0, .slice none 0 0] 33)) [Value.int .i64 4, .int .u64 0, .int .u64 0, .int .i64 0, .int .i64 0, .int .u64 0, .slice none 0 0] 33 (by simp)).below (oneB _ _), by rw [HM0.out]; exact NB.rw_new ((w.alloc (.cells #[Value.int .i64 0, .int .u64 0, .int .u64 0, .int .i64 0, .int .i64 0, .int .u64 0, .slice none 0 0] 33)).alloc (.cells #[Value.int .i64 4, .int .u64 0, .int .u64 0, .int .i64 0, .int .i64 0, .int .u64 0, .slice none 0 0] 33)) [.string ⟨b.toArray⟩, .int .i64 0] 69 (by simp), by omega, by omega, by omega, Nat.le_refl _, by omega, by omega, (ob.alloc ob.size _).alloc (by simp; omega) _⟩
  clear r2 ob hg2
  go_enter Try.func12, Try.ntmps12
  go_wp2_with fail
  clear hyi hyy
  generalize (((w.alloc (.cells #[Value.int .i64 0, .int .u64 0, .int .u64 0, .int .i64 0, .int .i64 0, .int .u64 0, .slice none 0 0] 33)).alloc (.cells #[Value.int .i64 4, .int .u64 0, .int .u64 0, .int .i64 0, .int .i64 0, .int .u64 0, .slice none 0 0] 33)).alloc (.cells #[.string ⟨b.toArray⟩, .int .i64 0] 69)) = w6 at *
  rw [HM0.out] at Q1
  refine (Q1.out _).mono ?_
  rintro e x1 ⟨a', c', L, rfl, hW, hmap, hbx, hfa⟩
  have far6 := hfa.far (g := w.heap.size + 1) I.r4.lt
  have far5 := hfa.far (g := w.heap.size + 2) I.r5.lt
  have far2 := hfa.far (g := w.heap.size) I.r2.lt
  have I0 := I.below hbx
  have hLb := Rd.bound hW.rd
  clear I hbx hfa
  go_wp2_with fail
  refine (rall_any _ m1 _).mono ?_
  rintro e xx1 ⟨rfl, hbx⟩
  have I1 := I0.below hbx
  have I2 := I1.setR m1
  have I3 := I2.set 6 (.slice a' L.length c')
  simp only [List.set] at I3
  replace hW := hW.below hbx
  replace hW := hW.kp (((NB.Kp.refl (fun k => k = w.heap.size + 2) _).setCell (x := ⟨w.heap.size + 2, 0, none⟩) (.inl rfl) (.string ⟨m1.b.toArray⟩)).setCell (x := ⟨w.heap.size + 2, 1, none⟩) (.inl rfl) (.int .i64 m1.e)) far5
  replace hW := hW.kp (NB.Kp.setCell (NB.Kp.refl (fun k => k = w.heap.size + 1) _) (x := ⟨w.heap.size + 1, 6, none⟩) (.inl rfl) (.slice a' L.length c')) far6
  have FAR := Go.Lib.hid far2
  obtain ⟨p0, p1, n0, n1⟩ := NB.rw2 I1.r5
  obtain ⟨c0, c1, c2, c3', c4, c5, c6, f0, f1, f2, f3, f4, f5, f6⟩ := NB.rw7 I2.r4
  obtain ⟨e0, e1, e2, e3, e4, e5, e6, _⟩ := NB.rw7 I3.r4
  obtain ⟨o0, o1, _⟩ := NB.rw2 I3.r5
  clear I0 I1 I2 hbx far6 far5 far2
  go_wp2_with fail
  clear p0 p1 n0 n1 c0 c1 c2 c3' c4 c5 c6 f0 f1 f2 f3 f4 f5 f6 e0 e1 e2 e3 e4 e5 e6 o0 o1
  have I := I3
  clear I3
  generalize ((xx1.setCell ⟨w.heap.size + 2, 0, none⟩ (.string ⟨m1.b.toArray⟩)).setCell ⟨w.heap.size + 2, 1, none⟩ (.int .i64 m1.e)).setCell ⟨w.heap.size + 1, 6, none⟩ (.slice a' L.length c') = y1 at *
  have hG : G = if m1.fin ≠ 0 then (cm0, m1.fin) else if checkB (cmOf 4 0 0 0 0 0 L) = true then ((cmOf 4 0 0 0 0 0 L), 0) else (cm0, 11) := by
    rw [← HG.out, HGM.out]
    rw [← hmap]
    rfl
  have HGG := Go.Lib.hid hG
  clear hG HGM HG
  have cn := fun w => refEnd_any w m1
  unfold refR at cn
  skip
  generalize m1.fin = mf at *
  have CN := Go.Lib.hid cn; clear cn
  by_cases hf : mf = 0
  case neg =>
    have hne : (mf != 0) = true := by simpa using hf
    have hg : G = (cm0, mf) := by rw [HGG.out, if_pos hf]
    have HGE := Go.Lib.hid hg
    clear hg hf HGG
    refine (CN.out _).mono ?_
    rintro e z1 ⟨rfl, hbz⟩
    have Iz := I.below hbz
    have Bz := Iz.bel
    have rz := Iz.r2
    clear I hbz
    obtain ⟨c0, c1, c2, c3', c4, c5, c6, f0, f1, f2, f3, f4, f5, f6⟩ := NB.rw7 rz
    go_wp2_with fail
    have r9 := (((((((rz.set 0 (.int .i64 0)).set 1 (.int .u64 0)).set 2 (.int .u64 0)).set 3 (.int .i64 0)).set 4 (.int .i64 0)).set 5 (.int .u64 0)).set 6 (.slice none 0 0))
    simp only [List.set] at r9
    have B9 : Below w.heap.size w (((((((z1.setCell ⟨w.heap.size, 0, none⟩ (.int .i64 0)).setCell ⟨w.heap.size, 1, none⟩ (.int .u64 0)).setCell ⟨w.heap.size, 2, none⟩ (.int .u64 0)).setCell ⟨w.heap.size, 3, none⟩ (.int .i64 0)).setCell ⟨w.heap.size, 4, none⟩ (.int .i64 0)).setCell ⟨w.heap.size, 5, none⟩ (.int .u64 0)).setCell ⟨w.heap.size, 6, none⟩ (.slice none 0 0)) := (((((((Bz.setCell (p := ⟨_, 0, none⟩) (Nat.le_refl _) (.int .i64 0)).setCell (p := ⟨_, 1, none⟩) (Nat.le_refl _) (.int .u64 0)).setCell (p := ⟨_, 2, none⟩) (Nat.le_refl _) (.int .u64 0)).setCell (p := ⟨_, 3, none⟩) (Nat.le_refl _) (.int .i64 0)).setCell (p := ⟨_, 4, none⟩) (Nat.le_refl _) (.int .i64 0)).setCell (p := ⟨_, 5, none⟩) (Nat.le_refl _) (.int .u64 0)).setCell (p := ⟨_, 6, none⟩) (Nat.le_refl _) (.slice none 0 0))
    generalize (((((((z1.setCell ⟨w.heap.size, 0, none⟩ (.int .i64 0)).setCell ⟨w.heap.size, 1, none⟩ (.int .u64 0)).setCell ⟨w.heap.size, 2, none⟩ (.int .u64 0)).setCell ⟨w.heap.size, 3, none⟩ (.int .i64 0)).setCell ⟨w.heap.size, 4, none⟩ (.int .i64 0)).setCell ⟨w.heap.size, 5, none⟩ (.int .u64 0)).setCell ⟨w.heap.size, 6, none⟩ (.slice none 0 0)) = w9 at *
    obtain ⟨d0, d1, d2, d3, d4, d5, d6, _⟩ := NB.rw7 r9
    have hlt9 := r9.lt
    refine bodyPost_ret (v := .tuple #[.agg #[Value.int .i64 0, .int .u64 0, .int .u64 0, .int .i64 0, .int .i64 0, .int .u64 0, .slice none 0 0], .int .i64 mf]) (by simp [results, Try.results12, go_sem, d0, d1, d2, d3, d4, d5, d6, hlt9]) rfl ?_
    rw [HGE.out]
    exact getC_no B9
  subst hf
  have hg : G = if checkB (cmOf 4 0 0 0 0 0 L) = true then ((cmOf 4 0 0 0 0 0 L), 0) else (cm0, 11) := by rw [HGG.out, if_neg (fun h => h rfl)]
  have HGE := Go.Lib.hid hg
  clear hg HGG
  refine (CN.out _).mono ?_
  rintro e z1 ⟨rfl, hbz⟩
  have Iz := I.below hbz
  have hWz := hW.below hbz
  clear I hbz hW
  obtain ⟨e0, e1, e2, e3, e4, e5, e6, _⟩ := NB.rw7 Iz.r4
  have cc := rcheck_any z1 4 0 0 0 0 0 L.length c' a' L hWz
  unfold checkM at cc
  go_wp2_with fail
  clear e0 e1 e2 e3 e4 e5 e6
  cases hk : checkB (cmOf 4 0 0 0 0 0 L) with
  | false =>
    rw [hk] at cc
    have hg : G = (cm0, 11) := by rw [HGE.out, hk]; rfl
    have HGF := Go.Lib.hid hg
    clear hg hk HGE
    refine cc.mono ?_
    rintro e z2 ⟨rfl, hbz⟩
    simp only [Bool.false_eq_true, if_false]
    have I2 := Iz.below hbz
    have rz := I2.r2
    have Bz := I2.bel
    clear cc Iz hbz hWz
    obtain ⟨c0, c1, c2, c3', c4, c5, c6, f0, f1, f2, f3, f4, f5, f6⟩ := NB.rw7 rz
    go_wp2_with fail
    have r9 := (((((((rz.set 0 (.int .i64 0)).set 1 (.int .u64 0)).set 2 (.int .u64 0)).set 3 (.int .i64 0)).set 4 (.int .i64 0)).set 5 (.int .u64 0)).set 6 (.slice none 0 0))
    simp only [List.set] at r9
    have B9 : Below w.heap.size w (((((((z2.setCell ⟨w.heap.size, 0, none⟩ (.int .i64 0)).setCell ⟨w.heap.size, 1, none⟩ (.int .u64 0)).setCell ⟨w.heap.size, 2, none⟩ (.int .u64 0)).setCell ⟨w.heap.size, 3, none⟩ (.int .i64 0)).setCell ⟨w.heap.size, 4, none⟩ (.int .i64 0)).setCell ⟨w.heap.size, 5, none⟩ (.int .u64 0)).setCell ⟨w.heap.size, 6, none⟩ (.slice none 0 0)) := (((((((Bz.setCell (p := ⟨_, 0, none⟩) (Nat.le_refl _) (.int .i64 0)).setCell (p := ⟨_, 1, none⟩) (Nat.le_refl _) (.int .u64 0)).setCell (p := ⟨_, 2, none⟩) (Nat.le_refl _) (.int .u64 0)).setCell (p := ⟨_, 3, none⟩) (Nat.le_refl _) (.int .i64 0)).setCell (p := ⟨_, 4, none⟩) (Nat.le_refl _) (.int .i64 0)).setCell (p := ⟨_, 5, none⟩) (Nat.le_refl _) (.int .u64 0)).setCell (p := ⟨_, 6, none⟩) (Nat.le_refl _) (.slice none 0 0))
    generalize (((((((z2.setCell ⟨w.heap.size, 0, none⟩ (.int .i64 0)).setCell ⟨w.heap.size, 1, none⟩ (.int .u64 0)).setCell ⟨w.heap.size, 2, none⟩ (.int .u64 0)).setCell ⟨w.heap.size, 3, none⟩ (.int .i64 0)).setCell ⟨w.heap.size, 4, none⟩ (.int .i64 0)).setCell ⟨w.heap.size, 5, none⟩ (.int .u64 0)).setCell ⟨w.heap.size, 6, none⟩ (.slice none 0 0)) = w9 at *
    obtain ⟨d0, d1, d2, d3, d4, d5, d6, _⟩ := NB.rw7 r9
    have hlt9 := r9.lt
    refine bodyPost_ret (v := .tuple #[.agg #[Value.int .i64 0, .int .u64 0, .int .u64 0, .int .i64 0, .int .i64 0, .int .u64 0, .slice none 0 0], .int .i64 11]) (by simp [results, Try.results12, go_sem, d0, d1, d2, d3, d4, d5, d6, hlt9]) rfl ?_
    rw [HGF.out]
    exact getC_no B9
  | true =>
    rw [hk] at cc
    have hg : G = ((cmOf 4 0 0 0 0 0 L), 0) := by rw [HGE.out, hk]; rfl
    have HGF := Go.Lib.hid hg
    clear hg hk HGE
    refine cc.mono ?_
    rintro e z2 ⟨rfl, hbz⟩
    simp only [if_true]
    have I2 := Iz.below hbz
    have rz := I2.r2
    have Bz := I2.bel
    have hW2 := hWz.below hbz
    clear cc Iz hbz hWz
    obtain ⟨c0, c1, c2, c3', c4, c5, c6, f0, f1, f2, f3, f4, f5, f6⟩ := NB.rw7 rz
    obtain ⟨e0, e1, e2, e3, e4, e5, e6, _⟩ := NB.rw7 I2.r4
    go_wp2_with fail
    have r9 := (((((((rz.set 0 (.int .i64 4)).set 1 (.int .u64 0)).set 2 (.int .u64 0)).set 3 (.int .i64 0)).set 4 (.int .i64 0)).set 5 (.int .u64 0)).set 6 (.slice a' L.length c'))
    simp only [List.set] at r9
    have B9 : Below w.heap.size w (((((((z2.setCell ⟨w.heap.size, 0, none⟩ (.int .i64 4)).setCell ⟨w.heap.size, 1, none⟩ (.int .u64 0)).setCell ⟨w.heap.size, 2, none⟩ (.int .u64 0)).setCell ⟨w.heap.size, 3, none⟩ (.int .i64 0)).setCell ⟨w.heap.size, 4, none⟩ (.int .i64 0)).setCell ⟨w.heap.size, 5, none⟩ (.int .u64 0)).setCell ⟨w.heap.size, 6, none⟩ (.slice a' L.length c')) := (((((((Bz.setCell (p := ⟨_, 0, none⟩) (Nat.le_refl _) (.int .i64 4)).setCell (p := ⟨_, 1, none⟩) (Nat.le_refl _) (.int .u64 0)).setCell (p := ⟨_, 2, none⟩) (Nat.le_refl _) (.int .u64 0)).setCell (p := ⟨_, 3, none⟩) (Nat.le_refl _) (.int .i64 0)).setCell (p := ⟨_, 4, none⟩) (Nat.le_refl _) (.int .i64 0)).setCell (p := ⟨_, 5, none⟩) (Nat.le_refl _) (.int .u64 0)).setCell (p := ⟨_, 6, none⟩) (Nat.le_refl _) (.slice a' L.length c'))
    have kz : Kp (fun k => k = w.heap.size) z2 (((((((z2.setCell ⟨w.heap.size, 0, none⟩ (.int .i64 4)).setCell ⟨w.heap.size, 1, none⟩ (.int .u64 0)).setCell ⟨w.heap.size, 2, none⟩ (.int .u64 0)).setCell ⟨w.heap.size, 3, none⟩ (.int .i64 0)).setCell ⟨w.heap.size, 4, none⟩ (.int .i64 0)).setCell ⟨w.heap.size, 5, none⟩ (.int .u64 0)).setCell ⟨w.heap.size, 6, none⟩ (.slice a' L.length c')) := ((((((((NB.Kp.refl (fun k => k = w.heap.size) z2).setCell (x := ⟨w.heap.size, 0, none⟩) (.inl rfl) (.int .i64 4)).setCell (x := ⟨w.heap.size, 1, none⟩) (.inl rfl) (.int .u64 0)).setCell (x := ⟨w.heap.size, 2, none⟩) (.inl rfl) (.int .u64 0)).setCell (x := ⟨w.heap.size, 3, none⟩) (.inl rfl) (.int .i64 0)).setCell (x := ⟨w.heap.size, 4, none⟩) (.inl rfl) (.int .i64 0)).setCell (x := ⟨w.heap.size, 5, none⟩) (.inl rfl) (.int .u64 0)).setCell (x := ⟨w.heap.size, 6, none⟩) (.inl rfl) (.slice a' L.length c'))
    have hW9 := hW2.kp kz FAR.out
    clear kz
    generalize (((((((z2.setCell ⟨w.heap.size, 0, none⟩ (.int .i64 4)).setCell ⟨w.heap.size, 1, none⟩ (.int .u64 0)).setCell ⟨w.heap.size, 2, none⟩ (.int .u64 0)).setCell ⟨w.heap.size, 3, none⟩ (.int .i64 0)).setCell ⟨w.heap.size, 4, none⟩ (.int .i64 0)).setCell ⟨w.heap.size, 5, none⟩ (.int .u64 0)).setCell ⟨w.heap.size, 6, none⟩ (.slice a' L.length c')) = w9 at *
    obtain ⟨d0, d1, d2, d3, d4, d5, d6, _⟩ := NB.rw7 r9
    have hlt9 := r9.lt
    refine bodyPost_ret (v := .tuple #[.agg #[.int .i64 4, .int .u64 0, .int .u64 0, .int .i64 0, .int .i64 0, .int .u64 0, .slice a' L.length c'], .int .i64 0]) (by simp [results, Try.results12, go_sem, d0, d1, d2, d3, d4, d5, d6, hlt9]) rfl ?_
    rw [HGF.out]
    exact ⟨a', c', L, rfl, hW9, rfl, B9⟩
end Go.Proofs.Ytnkmlopgfgdajaa
