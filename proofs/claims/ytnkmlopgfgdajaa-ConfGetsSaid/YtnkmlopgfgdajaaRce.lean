/- The reference's Get on commands, by ops. -/
import Derived.Test.YtnkmlopgfgdajaaRcd
namespace Go.Proofs.Ytnkmlopgfgdajaa
open Go.RowKit
open Go.NB (Rd RdU Kp Stp Dis Rr Rw oneB dB encU)

set_option maxHeartbeats 2000000 in
theorem rcget_nil (w : World) : Calls Try.prog 12 #[.string ⟨([] : List UInt8).toArray⟩] w (GetC w (getM [])) := by
  have hg : getM [] = (cm0, 10) := rfl
  rw [hg]
  go_enter Try.func12, Try.ntmps12
  go_wp2
  refine bodyPost_ret (v := .tuple #[.agg #[Value.int .i64 0, .int .u64 0, .int .u64 0, .int .i64 0, .int .i64 0, .int .u64 0, .slice none 0 0], .int .i64 10]) (by simp [results, Try.results12, go_sem]) rfl ?_
  exact getC_no ((Below.refl _ _).alloc (Nat.le_refl _) _)

set_option maxRecDepth 100000 in
set_option maxHeartbeats 8000000 in
theorem rcget_big (w : World) (y : UInt8) (b : List UInt8) (hn8 : (y :: b).length ≤ 1000000) (hy : 4 < y.toNat) : Calls Try.prog 12 #[.string ⟨(y :: b).toArray⟩] w (GetC w (getM (y :: b))) := by
  obtain ⟨G, hG⟩ : ∃ G, getM (y :: b) = G := ⟨_, rfl⟩
  rw [hG]
  have HG := Go.Lib.hid hG
  clear hG
  have ob := oneB w (.cells #[Value.int .i64 0, .int .u64 0, .int .u64 0, .int .i64 0, .int .i64 0, .int .u64 0, .slice none 0 0] 33)
  have r2 := NB.rw_new w [Value.int .i64 0, .int .u64 0, .int .u64 0, .int .i64 0, .int .i64 0, .int .u64 0, .slice none 0 0] 33 rfl
  simp only [List.toArray] at r2
  have hyi : (4 : Int) < (y.toNat : Int) := by omega
  have hyy : ∀ h, (ByteArray.mk (y :: b).toArray)[0]'h = y := fun _ => rfl
  have hwy : IntKind.i64.wrap (y.toNat : Int) = (y.toNat : Int) := IntWalk.i64_in _ (by have := y.toNat_lt; omega)
  have hwy2 : wrap64 (y.toNat : Int) = (y.toNat : Int) := by have := y.toNat_lt; unfold wrap64; omega
  have hg : G = (cm0, 11) := by rw [← HG.out]; exact getM_op y b hy
  have HGG := Go.Lib.hid hg
  clear hg HG r2
  have hne : (y :: b) ≠ [] := by simp
  go_enter Try.func12, Try.ntmps12
  go_wp2
  refine bodyPost_ret (v := .tuple #[.agg #[Value.int .i64 0, .int .u64 0, .int .u64 0, .int .i64 0, .int .i64 0, .int .u64 0, .slice none 0 0], .int .i64 11]) (by simp [results, Try.results12, go_sem]) rfl ?_
  rw [HGG.out]
  exact getC_no (((Below.refl _ _).alloc (Nat.le_refl _) _).alloc (by simp) _)

set_option maxRecDepth 100000 in
set_option maxHeartbeats 8000000 in
theorem rcget_k0 (w : World) (y : UInt8) (b : List UInt8) (hn8 : (y :: b).length ≤ 1000000) (hy : y.toNat = 0) : Calls Try.prog 12 #[.string ⟨(y :: b).toArray⟩] w (GetC w (getM (y :: b))) := by
  obtain ⟨m0, hm0⟩ : ∃ m0 : Rr, m0 = ⟨b, 0⟩ := ⟨_, rfl⟩
  have hP : fieldsP 0 m0 = (m0, cm0) := rfl
  have hl0 : m0.b.length ≤ 1000000 := by rw [hm0]; simp only [List.length_cons] at hn8; simp only; omega
  rw [hm0] at hP
  have hgm := getM_fin hy (by omega) hP
  have HGM := Go.Lib.hid hgm; have HM0 := Go.Lib.hid hm0
  have hyi : (y.toNat : Int) = 0 := by omega
  have hyy : ∀ h, (ByteArray.mk (y :: b).toArray)[0]'h = y := fun _ => rfl
  clear hP hgm hm0 hy
  obtain ⟨G, hG⟩ : ∃ G, getM (y :: b) = G := ⟨_, rfl⟩
  rw [hG]
  have HG := Go.Lib.hid hG
  clear hG
  have ob := oneB w (.cells #[Value.int .i64 0, .int .u64 0, .int .u64 0, .int .i64 0, .int .i64 0, .int .u64 0, .slice none 0 0] 33)
  have r2 := NB.rw_new w [Value.int .i64 0, .int .u64 0, .int .u64 0, .int .i64 0, .int .i64 0, .int .u64 0, .slice none 0 0] 33 rfl
  simp only [List.toArray] at r2
  have hbl : b.length ≤ 1000000 := by simp only [List.length_cons] at hn8; omega
  have hg2 : Rw (((w.alloc (.cells #[Value.int .i64 0, .int .u64 0, .int .u64 0, .int .i64 0, .int .i64 0, .int .u64 0, .slice none 0 0] 33)).alloc (.cells #[Value.int .i64 0, .int .u64 0, .int .u64 0, .int .i64 0, .int .i64 0, .int .u64 0, .slice none 0 0] 33)).alloc (.cells #[.string ⟨b.toArray⟩, .int .i64 0] 69)) w.heap.size [Value.int .i64 0, .int .u64 0, .int .u64 0, .int .i64 0, .int .i64 0, .int .u64 0, .slice none 0 0] 33 := (r2.below (oneB _ _)).below (oneB _ _)
  have I : RGetI w w.heap.size (w.heap.size + 1) (w.heap.size + 2) [Value.int .i64 0, .int .u64 0, .int .u64 0, .int .i64 0, .int .i64 0, .int .u64 0, .slice none 0 0] m0 (((w.alloc (.cells #[Value.int .i64 0, .int .u64 0, .int .u64 0, .int .i64 0, .int .i64 0, .int .u64 0, .slice none 0 0] 33)).alloc (.cells #[Value.int .i64 0, .int .u64 0, .int .u64 0, .int .i64 0, .int .i64 0, .int .u64 0, .slice none 0 0] 33)).alloc (.cells #[.string ⟨b.toArray⟩, .int .i64 0] 69)) :=
    ⟨hg2, (NB.rw_new (w.alloc (.cells #[Value.int .i64 0, .int .u64 0, .int .u64 0, .int .i64 0, .int .i64 0, .int .u64 0, .slice none 0 0] 33)) [Value.int .i64 0, .int .u64 0, .int .u64 0, .int .i64 0, .int .i64 0, .int .u64 0, .slice none 0 0] 33 (by simp)).below (oneB _ _), by rw [HM0.out]; exact NB.rw_new ((w.alloc (.cells #[Value.int .i64 0, .int .u64 0, .int .u64 0, .int .i64 0, .int .i64 0, .int .u64 0, .slice none 0 0] 33)).alloc (.cells #[Value.int .i64 0, .int .u64 0, .int .u64 0, .int .i64 0, .int .i64 0, .int .u64 0, .slice none 0 0] 33)) [.string ⟨b.toArray⟩, .int .i64 0] 69 (by simp), by omega, by omega, by omega, Nat.le_refl _, by omega, by omega, (ob.alloc ob.size _).alloc (by simp; omega) _⟩
  clear r2 ob hg2
  go_enter Try.func12, Try.ntmps12
  go_wp2_with fail
  clear hyi hyy
  generalize (((w.alloc (.cells #[Value.int .i64 0, .int .u64 0, .int .u64 0, .int .i64 0, .int .i64 0, .int .u64 0, .slice none 0 0] 33)).alloc (.cells #[Value.int .i64 0, .int .u64 0, .int .u64 0, .int .i64 0, .int .i64 0, .int .u64 0, .slice none 0 0] 33)).alloc (.cells #[.string ⟨b.toArray⟩, .int .i64 0] 69)) = w6 at *
  have hW : RdW w6 none 0 0 [] := ⟨Rd.nil_mk, fun x hx => nomatch hx⟩
  have far2 : FarW (fun k => k = w.heap.size) none [] := ⟨(fun b o e => nomatch e), (fun x hx => nomatch hx)⟩
  have FAR := Go.Lib.hid far2
  clear far2
  have hG : G = if m0.fin ≠ 0 then (cm0, m0.fin) else if checkB (cmOf 0 0 0 0 0 0 []) = true then ((cmOf 0 0 0 0 0 0 []), 0) else (cm0, 11) := by
    rw [← HG.out, HGM.out]
    rw [HM0.out]
    rfl
  have HGG := Go.Lib.hid hG
  clear hG HGM HG
  have cn := fun w => refEnd_any w m0
  unfold refR at cn
  rw [HM0.out] at cn
  have hfm : (Rr.fin ⟨b, 0⟩) = m0.fin := by rw [HM0.out]
  rw [hfm] at cn
  clear hfm
  generalize m0.fin = mf at *
  have CN := Go.Lib.hid cn; clear cn
  by_cases hf : mf = 0
  case neg =>
    have hne : (mf != 0) = true := by simpa using hf
    have hg : G = (cm0, mf) := by rw [HGG.out, if_pos hf]
    have HGE := Go.Lib.hid hg
    clear hg hf HGG
    refine (CN.out _).mono ?_
    rintro e z1 ⟨rfl, hbz⟩
    have Iz := I.below hbz
    have Bz := Iz.bel
    have rz := Iz.r2
    clear I hbz
    obtain ⟨c0, c1, c2, c3', c4, c5, c6, f0, f1, f2, f3, f4, f5, f6⟩ := NB.rw7 rz
    go_wp2_with fail
    have r9 := (((((((rz.set 0 (.int .i64 0)).set 1 (.int .u64 0)).set 2 (.int .u64 0)).set 3 (.int .i64 0)).set 4 (.int .i64 0)).set 5 (.int .u64 0)).set 6 (.slice none 0 0))
    simp only [List.set] at r9
    have B9 : Below w.heap.size w (((((((z1.setCell ⟨w.heap.size, 0, none⟩ (.int .i64 0)).setCell ⟨w.heap.size, 1, none⟩ (.int .u64 0)).setCell ⟨w.heap.size, 2, none⟩ (.int .u64 0)).setCell ⟨w.heap.size, 3, none⟩ (.int .i64 0)).setCell ⟨w.heap.size, 4, none⟩ (.int .i64 0)).setCell ⟨w.heap.size, 5, none⟩ (.int .u64 0)).setCell ⟨w.heap.size, 6, none⟩ (.slice none 0 0)) := (((((((Bz.setCell (p := ⟨_, 0, none⟩) (Nat.le_refl _) (.int .i64 0)).setCell (p := ⟨_, 1, none⟩) (Nat.le_refl _) (.int .u64 0)).setCell (p := ⟨_, 2, none⟩) (Nat.le_refl _) (.int .u64 0)).setCell (p := ⟨_, 3, none⟩) (Nat.le_refl _) (.int .i64 0)).setCell (p := ⟨_, 4, none⟩) (Nat.le_refl _) (.int .i64 0)).setCell (p := ⟨_, 5, none⟩) (Nat.le_refl _) (.int .u64 0)).setCell (p := ⟨_, 6, none⟩) (Nat.le_refl _) (.slice none 0 0))
    generalize (((((((z1.setCell ⟨w.heap.size, 0, none⟩ (.int .i64 0)).setCell ⟨w.heap.size, 1, none⟩ (.int .u64 0)).setCell ⟨w.heap.size, 2, none⟩ (.int .u64 0)).setCell ⟨w.heap.size, 3, none⟩ (.int .i64 0)).setCell ⟨w.heap.size, 4, none⟩ (.int .i64 0)).setCell ⟨w.heap.size, 5, none⟩ (.int .u64 0)).setCell ⟨w.heap.size, 6, none⟩ (.slice none 0 0)) = w9 at *
    obtain ⟨d0, d1, d2, d3, d4, d5, d6, _⟩ := NB.rw7 r9
    have hlt9 := r9.lt
    refine bodyPost_ret (v := .tuple #[.agg #[Value.int .i64 0, .int .u64 0, .int .u64 0, .int .i64 0, .int .i64 0, .int .u64 0, .slice none 0 0], .int .i64 mf]) (by simp [results, Try.results12, go_sem, d0, d1, d2, d3, d4, d5, d6, hlt9]) rfl ?_
    rw [HGE.out]
    exact getC_no B9
  subst hf
  have hg : G = if checkB (cmOf 0 0 0 0 0 0 []) = true then ((cmOf 0 0 0 0 0 0 []), 0) else (cm0, 11) := by rw [HGG.out, if_neg (fun h => h rfl)]
  have HGE := Go.Lib.hid hg
  clear hg HGG
  refine (CN.out _).mono ?_
  rintro e z1 ⟨rfl, hbz⟩
  have Iz := I.below hbz
  have hWz := hW.below hbz
  clear I hbz hW
  obtain ⟨e0, e1, e2, e3, e4, e5, e6, _⟩ := NB.rw7 Iz.r4
  have cc := rcheck_any z1 0 0 0 0 0 0 0 0 none [] hWz
  unfold checkM at cc
  go_wp2_with fail
  clear e0 e1 e2 e3 e4 e5 e6
  cases hk : checkB (cmOf 0 0 0 0 0 0 []) with
  | false =>
    rw [hk] at cc
    have hg : G = (cm0, 11) := by rw [HGE.out, hk]; rfl
    have HGF := Go.Lib.hid hg
    clear hg hk HGE
    refine cc.mono ?_
    rintro e z2 ⟨rfl, hbz⟩
    simp only [Bool.false_eq_true, if_false]
    have I2 := Iz.below hbz
    have rz := I2.r2
    have Bz := I2.bel
    clear cc Iz hbz hWz
    obtain ⟨c0, c1, c2, c3', c4, c5, c6, f0, f1, f2, f3, f4, f5, f6⟩ := NB.rw7 rz
    go_wp2_with fail
    have r9 := (((((((rz.set 0 (.int .i64 0)).set 1 (.int .u64 0)).set 2 (.int .u64 0)).set 3 (.int .i64 0)).set 4 (.int .i64 0)).set 5 (.int .u64 0)).set 6 (.slice none 0 0))
    simp only [List.set] at r9
    have B9 : Below w.heap.size w (((((((z2.setCell ⟨w.heap.size, 0, none⟩ (.int .i64 0)).setCell ⟨w.heap.size, 1, none⟩ (.int .u64 0)).setCell ⟨w.heap.size, 2, none⟩ (.int .u64 0)).setCell ⟨w.heap.size, 3, none⟩ (.int .i64 0)).setCell ⟨w.heap.size, 4, none⟩ (.int .i64 0)).setCell ⟨w.heap.size, 5, none⟩ (.int .u64 0)).setCell ⟨w.heap.size, 6, none⟩ (.slice none 0 0)) := (((((((Bz.setCell (p := ⟨_, 0, none⟩) (Nat.le_refl _) (.int .i64 0)).setCell (p := ⟨_, 1, none⟩) (Nat.le_refl _) (.int .u64 0)).setCell (p := ⟨_, 2, none⟩) (Nat.le_refl _) (.int .u64 0)).setCell (p := ⟨_, 3, none⟩) (Nat.le_refl _) (.int .i64 0)).setCell (p := ⟨_, 4, none⟩) (Nat.le_refl _) (.int .i64 0)).setCell (p := ⟨_, 5, none⟩) (Nat.le_refl _) (.int .u64 0)).setCell (p := ⟨_, 6, none⟩) (Nat.le_refl _) (.slice none 0 0))
    generalize (((((((z2.setCell ⟨w.heap.size, 0, none⟩ (.int .i64 0)).setCell ⟨w.heap.size, 1, none⟩ (.int .u64 0)).setCell ⟨w.heap.size, 2, none⟩ (.int .u64 0)).setCell ⟨w.heap.size, 3, none⟩ (.int .i64 0)).setCell ⟨w.heap.size, 4, none⟩ (.int .i64 0)).setCell ⟨w.heap.size, 5, none⟩ (.int .u64 0)).setCell ⟨w.heap.size, 6, none⟩ (.slice none 0 0)) = w9 at *
    obtain ⟨d0, d1, d2, d3, d4, d5, d6, _⟩ := NB.rw7 r9
    have hlt9 := r9.lt
    refine bodyPost_ret (v := .tuple #[.agg #[Value.int .i64 0, .int .u64 0, .int .u64 0, .int .i64 0, .int .i64 0, .int .u64 0, .slice none 0 0], .int .i64 11]) (by simp [results, Try.results12, go_sem, d0, d1, d2, d3, d4, d5, d6, hlt9]) rfl ?_
    rw [HGF.out]
    exact getC_no B9
  | true =>
    rw [hk] at cc
    have hg : G = ((cmOf 0 0 0 0 0 0 []), 0) := by rw [HGE.out, hk]; rfl
    have HGF := Go.Lib.hid hg
    clear hg hk HGE
    refine cc.mono ?_
    rintro e z2 ⟨rfl, hbz⟩
    simp only [if_true]
    have I2 := Iz.below hbz
    have rz := I2.r2
    have Bz := I2.bel
    have hW2 := hWz.below hbz
    clear cc Iz hbz hWz
    obtain ⟨c0, c1, c2, c3', c4, c5, c6, f0, f1, f2, f3, f4, f5, f6⟩ := NB.rw7 rz
    obtain ⟨e0, e1, e2, e3, e4, e5, e6, _⟩ := NB.rw7 I2.r4
    go_wp2_with fail
    have r9 := (((((((rz.set 0 (.int .i64 0)).set 1 (.int .u64 0)).set 2 (.int .u64 0)).set 3 (.int .i64 0)).set 4 (.int .i64 0)).set 5 (.int .u64 0)).set 6 (.slice none 0 0))
    simp only [List.set] at r9
    have B9 : Below w.heap.size w (((((((z2.setCell ⟨w.heap.size, 0, none⟩ (.int .i64 0)).setCell ⟨w.heap.size, 1, none⟩ (.int .u64 0)).setCell ⟨w.heap.size, 2, none⟩ (.int .u64 0)).setCell ⟨w.heap.size, 3, none⟩ (.int .i64 0)).setCell ⟨w.heap.size, 4, none⟩ (.int .i64 0)).setCell ⟨w.heap.size, 5, none⟩ (.int .u64 0)).setCell ⟨w.heap.size, 6, none⟩ (.slice none 0 0)) := (((((((Bz.setCell (p := ⟨_, 0, none⟩) (Nat.le_refl _) (.int .i64 0)).setCell (p := ⟨_, 1, none⟩) (Nat.le_refl _) (.int .u64 0)).setCell (p := ⟨_, 2, none⟩) (Nat.le_refl _) (.int .u64 0)).setCell (p := ⟨_, 3, none⟩) (Nat.le_refl _) (.int .i64 0)).setCell (p := ⟨_, 4, none⟩) (Nat.le_refl _) (.int .i64 0)).setCell (p := ⟨_, 5, none⟩) (Nat.le_refl _) (.int .u64 0)).setCell (p := ⟨_, 6, none⟩) (Nat.le_refl _) (.slice none 0 0))
    have kz : Kp (fun k => k = w.heap.size) z2 (((((((z2.setCell ⟨w.heap.size, 0, none⟩ (.int .i64 0)).setCell ⟨w.heap.size, 1, none⟩ (.int .u64 0)).setCell ⟨w.heap.size, 2, none⟩ (.int .u64 0)).setCell ⟨w.heap.size, 3, none⟩ (.int .i64 0)).setCell ⟨w.heap.size, 4, none⟩ (.int .i64 0)).setCell ⟨w.heap.size, 5, none⟩ (.int .u64 0)).setCell ⟨w.heap.size, 6, none⟩ (.slice none 0 0)) := ((((((((NB.Kp.refl (fun k => k = w.heap.size) z2).setCell (x := ⟨w.heap.size, 0, none⟩) (.inl rfl) (.int .i64 0)).setCell (x := ⟨w.heap.size, 1, none⟩) (.inl rfl) (.int .u64 0)).setCell (x := ⟨w.heap.size, 2, none⟩) (.inl rfl) (.int .u64 0)).setCell (x := ⟨w.heap.size, 3, none⟩) (.inl rfl) (.int .i64 0)).setCell (x := ⟨w.heap.size, 4, none⟩) (.inl rfl) (.int .i64 0)).setCell (x := ⟨w.heap.size, 5, none⟩) (.inl rfl) (.int .u64 0)).setCell (x := ⟨w.heap.size, 6, none⟩) (.inl rfl) (.slice none 0 0))
    have hW9 := hW2.kp kz FAR.out
    clear kz
    generalize (((((((z2.setCell ⟨w.heap.size, 0, none⟩ (.int .i64 0)).setCell ⟨w.heap.size, 1, none⟩ (.int .u64 0)).setCell ⟨w.heap.size, 2, none⟩ (.int .u64 0)).setCell ⟨w.heap.size, 3, none⟩ (.int .i64 0)).setCell ⟨w.heap.size, 4, none⟩ (.int .i64 0)).setCell ⟨w.heap.size, 5, none⟩ (.int .u64 0)).setCell ⟨w.heap.size, 6, none⟩ (.slice none 0 0)) = w9 at *
    obtain ⟨d0, d1, d2, d3, d4, d5, d6, _⟩ := NB.rw7 r9
    have hlt9 := r9.lt
    refine bodyPost_ret (v := .tuple #[.agg #[.int .i64 0, .int .u64 0, .int .u64 0, .int .i64 0, .int .i64 0, .int .u64 0, .slice none 0 0], .int .i64 0]) (by simp [results, Try.results12, go_sem, d0, d1, d2, d3, d4, d5, d6, hlt9]) rfl ?_
    rw [HGF.out]
    exact ⟨none, 0, [], rfl, hW9, rfl, B9⟩
end Go.Proofs.Ytnkmlopgfgdajaa
