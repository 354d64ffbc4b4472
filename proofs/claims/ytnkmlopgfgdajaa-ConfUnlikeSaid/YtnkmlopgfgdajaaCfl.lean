/- The function Get of conf, by ops. -/
import Derived.Test.YtnkmlopgfgdajaaCfh
namespace Go.Proofs.Ytnkmlopgfgdajaa
open Go.RowKit
open Go.NB (Rd RdU Kp Stp Dis Rr Rw oneB dB encU)

set_option maxRecDepth 100000 in
set_option maxHeartbeats 8000000 in
theorem cget_k3 (w : World) (a : Option Addr) (n c : Nat) (y : UInt8) (b : List UInt8) (h : NB.RdB w a n c (y :: b)) (hn8 : n ≤ 1000000) (hy : y.toNat = 3) : Calls Try.prog 11 #[.slice a n c] w (GetC w (getM (y :: b))) := by
  obtain ⟨m0, hm0⟩ : ∃ m0 : Rr, m0 = ⟨b, 0⟩ := ⟨_, rfl⟩
  have hP : fieldsP 3 m0 = (((((((m0).uint).1).uint).1).uint).1, ⟨3, ((m0).uint).2, ((((m0).uint).1).uint).2, 0, 0, ((((((m0).uint).1).uint).1).uint).2, []⟩) := rfl
  have q1 := fun w base p g FC hh => cnumber_any (w := w) (base := base) (p := p) (g := g) (FC := FC) (m := m0) hh
  generalize Rr.uint m0 = U1 at *
  obtain ⟨m1, cl⟩ := U1
  simp only at q1 hP
  have Q1 := Go.Lib.hid q1
  clear q1
  have q2 := fun w base p g FC hh => cnumber_any (w := w) (base := base) (p := p) (g := g) (FC := FC) (m := m1) hh
  generalize Rr.uint m1 = U2 at *
  obtain ⟨m2, sq⟩ := U2
  simp only at q2 hP
  have Q2 := Go.Lib.hid q2
  clear q2
  have q3 := fun w base p g FC hh => cnumber_any (w := w) (base := base) (p := p) (g := g) (FC := FC) (m := m2) hh
  generalize Rr.uint m2 = U3 at *
  obtain ⟨m3, ps⟩ := U3
  simp only at q3 hP
  have Q3 := Go.Lib.hid q3
  clear q3
  rw [hm0] at hP
  have hgm := getM_of hy (by omega) hP
  have HGM := Go.Lib.hid hgm; have HM0 := Go.Lib.hid hm0; have HY := Go.Lib.hid hy
  clear hP hgm hm0 hy
  have hn := NB.RdB.size h
  have ob := oneB w (.cells #[Value.int .i64 0, .int .u64 0, .int .u64 0, .int .i64 0, .int .i64 0, .int .u64 0, .slice none 0 0] 27)
  have r2 := NB.rw_new w [Value.int .i64 0, .int .u64 0, .int .u64 0, .int .i64 0, .int .i64 0, .int .u64 0, .slice none 0 0] 27 rfl
  simp only [List.toArray] at r2
  have h1 := Rd.below h ob
  obtain ⟨G, hG⟩ : ∃ G, getM (y :: b) = G := ⟨_, rfl⟩
  rw [hG]
  have HG := Go.Lib.hid hG
  have hraw := raw_one y b
  have HRAW := Go.Lib.hid hraw
  have HN := Go.Lib.hid hn
  clear hG hraw hn
  go_enter Try.func11, Try.ntmps11
  go_wp2_with fail
  refine (rnew_any _ a n c (y :: b) h1 (by omega)).mono ?_
  rintro e w1 ⟨p, F, rfl, hR, hb1⟩
  have r21 := r2.below hb1
  have B1 := NB.bel ob hb1 ob.size
  clear r2 h1 hb1 ob
  have nf : ¬ F w.heap.size := fun hf => by have := (hR.foot _ hf).1; simp at this; omega
  have hF1 : ∀ k, F k → k < w1.heap.size := fun k hf => (hR.foot k hf).2
  have hbase : w.heap.size ≤ (w.alloc (.cells #[Value.int .i64 0, .int .u64 0, .int .u64 0, .int .i64 0, .int .i64 0, .int .u64 0, .slice none 0 0] 27)).heap.size := by simp
  have hbase2 : w.heap.size < (w.alloc (.cells #[Value.int .i64 0, .int .u64 0, .int .u64 0, .int .i64 0, .int .i64 0, .int .u64 0, .slice none 0 0] 27)).heap.size := by simp
  have hbg : (w.alloc (.cells #[Value.int .i64 0, .int .u64 0, .int .u64 0, .int .i64 0, .int .i64 0, .int .u64 0, .slice none 0 0] 27)).heap.size ≤ w1.heap.size := hR.base_le
  generalize (w.alloc (.cells #[Value.int .i64 0, .int .u64 0, .int .u64 0, .int .i64 0, .int .i64 0, .int .u64 0, .slice none 0 0] 27)).heap.size = base at *
  have rg := NB.rw_new w1 [.pointer (some ⟨p, 0, none⟩), .int .i64 0] 59 rfl
  simp only [List.toArray] at rg
  have ob2 := oneB w1 (.cells #[.pointer (some ⟨p, 0, none⟩), .int .i64 0] 59)
  have hR2 := hR.below ob2
  have r22 := r21.below ob2
  have B2 := NB.bel B1 ob2 B1.size
  have nfg : ¬ F w1.heap.size := fun hf => by have := hF1 _ hf; omega
  go_wp2_with fail
  generalize w1.alloc (.cells #[.pointer (some ⟨p, 0, none⟩), .int .i64 0] 59) = w2 at *
  generalize hgg : w1.heap.size = g at *
  clear hgg hF1 hR
  refine (rraw_any _ base p F _ 1 (by omega) hR2 (by show (y :: b).length ≤ _; have := HN.out; omega)).mono ?_
  rw [HRAW.out]
  rintro e w3 ⟨a3, c3, F3, rfl, ho3, hR3, hS3, _⟩
  simp only [List.length_singleton] at ho3 ⊢
  have r23 := r22.keep hS3.kp nf
  have rg3 := rg.keep hS3.kp nfg
  have n23 : ¬ F3 w.heap.size := fun hf => by have := (hR3.foot _ hf).1; omega
  have ng3 : ¬ F3 g := fun hf => (hS3.sub _ hf).elim nfg (fun hh => by have := rg.lt; omega)
  have B3 := NB.bel B2 (hR2.low hS3) hbase
  obtain ⟨a3', c3', e3, hr3, _, _⟩ := NB.rd_of_own ho3
  cases e3
  have hr3 : NB.RdB w3 a3 1 c3 [y] := hr3
  obtain ⟨b3, o3, rfl, hc3⟩ := NB.RdB.at hr3 (by omega)
  have q3 := hc3 0 (by omega)
  rw [Nat.add_zero, List.getD_cons_zero] at q3
  clear hR2 hS3 r21 r22 rg ob2 B1 B2 nf nfg hr3 hc3 ho3
  have hyi : (y.toNat : Int) = 3 := by have := HY.out; omega
  rw [hyi] at q3
  clear hyi
  have hC3 : HasC w3 base p g (fun k => k = g ∨ F3 k) m0 := ⟨F3, ⟨b, 0⟩, 0, hR3, rg3, ng3, hbg, fun h => absurd rfl h, by rw [HM0.out]; simp, rfl⟩
  clear hR3 rg3 ng3
  have r63 := NB.rw_new w3 [Value.int .i64 3, .int .u64 0, .int .u64 0, .int .i64 0, .int .i64 0, .int .u64 0, .slice none 0 0] 27 rfl
  simp only [List.toArray] at r63
  have ob3 := oneB w3 (.cells #[Value.int .i64 3, .int .u64 0, .int .u64 0, .int .i64 0, .int .i64 0, .int .u64 0, .slice none 0 0] 27)
  have hg2 := r23.lt
  go_wp2_with fail
  refine (of_any' _ 3 _ rfl (by omega)).mono ?_
  rintro e w5 ⟨rfl, hb5⟩
  simp only [ofV, hasV]
  have r7 := NB.rw_new w5 [Value.bool true, .bool false, .bool false, .bool true, .bool false] 62 rfl
  simp only [List.toArray] at r7
  have ob5 := oneB w5 (.cells #[Value.bool true, .bool false, .bool false, .bool true, .bool false] 62)
  have s35 : w3.heap.size < w5.heap.size := Nat.lt_of_lt_of_le (by simp) hb5.size
  have I : GetI w base p g w.heap.size w3.heap.size w5.heap.size [Value.int .i64 3, .int .u64 0, .int .u64 0, .int .i64 0, .int .i64 0, .int .u64 0, .slice none 0 0] [Value.bool true, .bool false, .bool false, .bool true, .bool false] (fun k => k = g ∨ F3 k) m0 (w5.alloc (.cells #[Value.bool true, .bool false, .bool false, .bool true, .bool false] 62)) :=
    ⟨((hC3.below ob3).below hb5).below ob5, ((r23.below ob3).below hb5).below ob5, (r63.below hb5).below ob5, r7, fun hf => hf.elim (fun e => by have := hbg; omega) n23, fun hf => by have := (hC3.foot _ hf).2; omega, fun hf => by have := (hC3.foot _ hf).2; omega, by omega, by omega, hbase, Nat.le_refl _, by omega, NB.bel (NB.bel (NB.bel B3 ob3 B3.size) hb5 (Nat.le_trans B3.size ob3.size)) ob5 (Nat.le_trans B3.size (by omega))⟩
  clear hC3 r63 ob3 hb5 r7 ob5 r23 B3 hg2 hbase hbase2 hbg n23 q3 HN HRAW
  obtain ⟨h0, h1, h2, h3, h4, _⟩ := NB.rw5 I.r7
  go_wp2_with fail
  generalize w5.alloc (.cells #[Value.bool true, .bool false, .bool false, .bool true, .bool false] 62) = w6 at *
  generalize w5.heap.size = g7 at *
  generalize w3.heap.size = g6 at *
  clear h0 h1 h2 h3 h4 s35
  refine (Q1.out _ base p g _ I.rd).mono ?_
  rintro e x1 ⟨rfl, E1, hC, hS⟩
  simp only at hC ⊢
  have I1 := I.step hC hS
  clear I hC hS
  have I := I1.set 1 (.int .u64 (cl : Int))
  simp only [List.set] at I
  obtain ⟨c0, c1, c2, c3', c4, c5, c6, f0, f1, f2, f3, f4, f5, f6⟩ := NB.rw7 I1.r6
  obtain ⟨h0, h1, h2, h3, h4, _⟩ := NB.rw5 I.r7
  clear I1
  go_wp2_with fail
  clear c0 c1 c2 c3' c4 c5 c6 f0 f1 f2 f3 f4 f5 f6 h0 h1 h2 h3 h4
  generalize x1.setCell ⟨g6, 1, none⟩ (.int .u64 (cl : Int)) = y1 at *
  refine (Q2.out _ base p g _ I.rd).mono ?_
  rintro e x2 ⟨rfl, E2, hC, hS⟩
  simp only at hC ⊢
  have I1 := I.step hC hS
  clear I hC hS
  have I := I1.set 2 (.int .u64 (sq : Int))
  simp only [List.set] at I
  obtain ⟨c0, c1, c2, c3', c4, c5, c6, f0, f1, f2, f3, f4, f5, f6⟩ := NB.rw7 I1.r6
  obtain ⟨h0, h1, h2, h3, h4, _⟩ := NB.rw5 I.r7
  clear I1
  go_wp2_with fail
  clear c0 c1 c2 c3' c4 c5 c6 f0 f1 f2 f3 f4 f5 f6 h0 h1 h2 h3 h4
  generalize x2.setCell ⟨g6, 2, none⟩ (.int .u64 (sq : Int)) = y2 at *
  refine (Q3.out _ base p g _ I.rd).mono ?_
  rintro e x3 ⟨rfl, E3, hC, hS⟩
  simp only at hC ⊢
  have I1 := I.step hC hS
  clear I hC hS
  have I := I1.set 5 (.int .u64 (ps : Int))
  simp only [List.set] at I
  obtain ⟨c0, c1, c2, c3', c4, c5, c6, f0, f1, f2, f3, f4, f5, f6⟩ := NB.rw7 I1.r6
  obtain ⟨h0, h1, h2, h3, h4, _⟩ := NB.rw5 I.r7
  clear I1
  go_wp2_with fail
  clear c0 c1 c2 c3' c4 c5 c6 f0 f1 f2 f3 f4 f5 f6 h0 h1 h2 h3 h4
  generalize x3.setCell ⟨g6, 5, none⟩ (.int .u64 (ps : Int)) = y3 at *
  have hW : RdW y3 none 0 0 [] := ⟨Rd.nil_mk, fun x hx => nomatch hx⟩
  have far2 : FarW (fun k => k = w.heap.size) none [] := ⟨(fun b o e => nomatch e), (fun x hx => nomatch hx)⟩
  have FAR := Go.Lib.hid far2
  clear far2
  have hG : G = if m3.e ≠ 0 then (cm0, m3.e) else if m3.b ≠ [] then (cm0, 12) else if checkB (cmOf 3 cl sq 0 0 ps []) = true then ((cmOf 3 cl sq 0 0 ps []), 0) else (cm0, 11) := by
    rw [← HG.out, HGM.out]
    rfl
  have HGG := Go.Lib.hid hG
  clear hG HGM HG
  have ce := cerr_any I.rd
  obtain ⟨c0, c1, c2, c3', c4, c5, c6, f0, f1, f2, f3, f4, f5, f6⟩ := NB.rw7 I.r2
  by_cases he : m3.e = 0
  case neg =>
    have hne : (m3.e != 0) = true := by simpa using he
    have hg : G = (cm0, m3.e) := by rw [HGG.out, if_pos he]
    have HGE := Go.Lib.hid hg
    clear hg he HGG
    have CE := Go.Lib.hid ce; clear ce
    generalize m3.e = me at *
    go_wp2_with (go_at_call 26; refine CE.out.mono ?_; rintro e w' ⟨rfl, e2⟩; subst w')
    have r9 := (((((((I.r2.set 0 (.int .i64 0)).set 1 (.int .u64 0)).set 2 (.int .u64 0)).set 3 (.int .i64 0)).set 4 (.int .i64 0)).set 5 (.int .u64 0)).set 6 (.slice none 0 0))
    simp only [List.set] at r9
    have B9 : Below w.heap.size w (((((((y3.setCell ⟨w.heap.size, 0, none⟩ (.int .i64 0)).setCell ⟨w.heap.size, 1, none⟩ (.int .u64 0)).setCell ⟨w.heap.size, 2, none⟩ (.int .u64 0)).setCell ⟨w.heap.size, 3, none⟩ (.int .i64 0)).setCell ⟨w.heap.size, 4, none⟩ (.int .i64 0)).setCell ⟨w.heap.size, 5, none⟩ (.int .u64 0)).setCell ⟨w.heap.size, 6, none⟩ (.slice none 0 0)) := (((((((I.bel.setCell (p := ⟨_, 0, none⟩) (Nat.le_refl _) (.int .i64 0)).setCell (p := ⟨_, 1, none⟩) (Nat.le_refl _) (.int .u64 0)).setCell (p := ⟨_, 2, none⟩) (Nat.le_refl _) (.int .u64 0)).setCell (p := ⟨_, 3, none⟩) (Nat.le_refl _) (.int .i64 0)).setCell (p := ⟨_, 4, none⟩) (Nat.le_refl _) (.int .i64 0)).setCell (p := ⟨_, 5, none⟩) (Nat.le_refl _) (.int .u64 0)).setCell (p := ⟨_, 6, none⟩) (Nat.le_refl _) (.slice none 0 0))
    generalize (((((((y3.setCell ⟨w.heap.size, 0, none⟩ (.int .i64 0)).setCell ⟨w.heap.size, 1, none⟩ (.int .u64 0)).setCell ⟨w.heap.size, 2, none⟩ (.int .u64 0)).setCell ⟨w.heap.size, 3, none⟩ (.int .i64 0)).setCell ⟨w.heap.size, 4, none⟩ (.int .i64 0)).setCell ⟨w.heap.size, 5, none⟩ (.int .u64 0)).setCell ⟨w.heap.size, 6, none⟩ (.slice none 0 0)) = w9 at *
    obtain ⟨d0, d1, d2, d3, d4, d5, d6, _⟩ := NB.rw7 r9
    have hlt9 := r9.lt
    refine bodyPost_ret (v := .tuple #[.agg #[Value.int .i64 0, .int .u64 0, .int .u64 0, .int .i64 0, .int .i64 0, .int .u64 0, .slice none 0 0], .int .i64 me]) (by simp [results, Try.results11, go_sem, d0, d1, d2, d3, d4, d5, d6, hlt9]) rfl ?_
    rw [HGE.out]
    exact getC_no B9
  obtain ⟨FI, hRI, hcI⟩ := I.rd.inner he
  have cn := rend_any _ base p FI m3 hRI
  rw [he] at ce
  have CE := Go.Lib.hid ce; clear ce
  by_cases hb : m3.b = []
  case neg =>
    have hfin : m3.fin = 12 := by rw [Rr.eta he, Rr.fin_ok, if_neg hb]
    rw [hfin] at cn
    have hg : G = (cm0, 12) := by rw [HGG.out, if_neg (fun h => h he), if_pos hb]
    have HGE := Go.Lib.hid hg
    clear hg he HGG hb hfin
    have CN := Go.Lib.hid cn; clear cn hRI
    go_wp2_with (first
      | (go_at_call 26; refine CE.out.mono ?_; rintro e w' ⟨rfl, e2⟩; subst w')
      | (go_at_call 27; refine CN.out.mono ?_; rintro e w' ⟨rfl, e2⟩; subst w'))
    have r9 := (((((((I.r2.set 0 (.int .i64 0)).set 1 (.int .u64 0)).set 2 (.int .u64 0)).set 3 (.int .i64 0)).set 4 (.int .i64 0)).set 5 (.int .u64 0)).set 6 (.slice none 0 0))
    simp only [List.set] at r9
    have B9 : Below w.heap.size w (((((((y3.setCell ⟨w.heap.size, 0, none⟩ (.int .i64 0)).setCell ⟨w.heap.size, 1, none⟩ (.int .u64 0)).setCell ⟨w.heap.size, 2, none⟩ (.int .u64 0)).setCell ⟨w.heap.size, 3, none⟩ (.int .i64 0)).setCell ⟨w.heap.size, 4, none⟩ (.int .i64 0)).setCell ⟨w.heap.size, 5, none⟩ (.int .u64 0)).setCell ⟨w.heap.size, 6, none⟩ (.slice none 0 0)) := (((((((I.bel.setCell (p := ⟨_, 0, none⟩) (Nat.le_refl _) (.int .i64 0)).setCell (p := ⟨_, 1, none⟩) (Nat.le_refl _) (.int .u64 0)).setCell (p := ⟨_, 2, none⟩) (Nat.le_refl _) (.int .u64 0)).setCell (p := ⟨_, 3, none⟩) (Nat.le_refl _) (.int .i64 0)).setCell (p := ⟨_, 4, none⟩) (Nat.le_refl _) (.int .i64 0)).setCell (p := ⟨_, 5, none⟩) (Nat.le_refl _) (.int .u64 0)).setCell (p := ⟨_, 6, none⟩) (Nat.le_refl _) (.slice none 0 0))
    generalize (((((((y3.setCell ⟨w.heap.size, 0, none⟩ (.int .i64 0)).setCell ⟨w.heap.size, 1, none⟩ (.int .u64 0)).setCell ⟨w.heap.size, 2, none⟩ (.int .u64 0)).setCell ⟨w.heap.size, 3, none⟩ (.int .i64 0)).setCell ⟨w.heap.size, 4, none⟩ (.int .i64 0)).setCell ⟨w.heap.size, 5, none⟩ (.int .u64 0)).setCell ⟨w.heap.size, 6, none⟩ (.slice none 0 0)) = w9 at *
    obtain ⟨d0, d1, d2, d3, d4, d5, d6, _⟩ := NB.rw7 r9
    have hlt9 := r9.lt
    refine bodyPost_ret (v := .tuple #[.agg #[Value.int .i64 0, .int .u64 0, .int .u64 0, .int .i64 0, .int .i64 0, .int .u64 0, .slice none 0 0], .int .i64 12]) (by simp [results, Try.results11, go_sem, d0, d1, d2, d3, d4, d5, d6, hlt9]) rfl ?_
    rw [HGE.out]
    exact getC_no B9
  have hfin : m3.fin = 0 := by rw [Rr.eta he, Rr.fin_ok, if_pos hb]
  rw [hfin] at cn
  have hg : G = if checkB (cmOf 3 cl sq 0 0 ps []) = true then ((cmOf 3 cl sq 0 0 ps []), 0) else (cm0, 11) := by rw [HGG.out, if_neg (fun h => h he), if_neg (fun h => h hb)]
  have cc := check_any y3 3 0 0 cl sq ps 0 0 none [] hW
  unfold checkM at cc
  have HGE := Go.Lib.hid hg
  clear hg he HGG hb hfin
  have CN := Go.Lib.hid cn; clear cn hRI
  obtain ⟨e0, e1, e2, e3, e4, e5, e6, _⟩ := NB.rw7 I.r6
  cases hk : checkB (cmOf 3 cl sq 0 0 ps []) with
  | false =>
    rw [hk] at cc
    have hg : G = (cm0, 11) := by rw [HGE.out, hk]; rfl
    have HGF := Go.Lib.hid hg
    have CC := Go.Lib.hid cc
    clear hg hk cc HGE
    go_wp2_with (first
      | (go_at_call 26; refine CE.out.mono ?_; rintro e w' ⟨rfl, e2⟩; subst w')
      | (go_at_call 27; refine CN.out.mono ?_; rintro e w' ⟨rfl, e2⟩; subst w')
      | (go_at_call 18; refine CC.out.mono ?_; rintro e z1 ⟨rfl, hbz⟩; simp only [Bool.false_eq_true, if_false]; have rz := I.r2.below hbz; have Bz := NB.bel I.bel hbz I.bel.size; clear c0 c1 c2 c3' c4 c5 c6 f0 f1 f2 f3 f4 f5 f6; obtain ⟨c0, c1, c2, c3', c4, c5, c6, f0, f1, f2, f3, f4, f5, f6⟩ := NB.rw7 rz))
    have r9 := (((((((rz.set 0 (.int .i64 0)).set 1 (.int .u64 0)).set 2 (.int .u64 0)).set 3 (.int .i64 0)).set 4 (.int .i64 0)).set 5 (.int .u64 0)).set 6 (.slice none 0 0))
    simp only [List.set] at r9
    have B9 : Below w.heap.size w (((((((z1.setCell ⟨w.heap.size, 0, none⟩ (.int .i64 0)).setCell ⟨w.heap.size, 1, none⟩ (.int .u64 0)).setCell ⟨w.heap.size, 2, none⟩ (.int .u64 0)).setCell ⟨w.heap.size, 3, none⟩ (.int .i64 0)).setCell ⟨w.heap.size, 4, none⟩ (.int .i64 0)).setCell ⟨w.heap.size, 5, none⟩ (.int .u64 0)).setCell ⟨w.heap.size, 6, none⟩ (.slice none 0 0)) := (((((((Bz.setCell (p := ⟨_, 0, none⟩) (Nat.le_refl _) (.int .i64 0)).setCell (p := ⟨_, 1, none⟩) (Nat.le_refl _) (.int .u64 0)).setCell (p := ⟨_, 2, none⟩) (Nat.le_refl _) (.int .u64 0)).setCell (p := ⟨_, 3, none⟩) (Nat.le_refl _) (.int .i64 0)).setCell (p := ⟨_, 4, none⟩) (Nat.le_refl _) (.int .i64 0)).setCell (p := ⟨_, 5, none⟩) (Nat.le_refl _) (.int .u64 0)).setCell (p := ⟨_, 6, none⟩) (Nat.le_refl _) (.slice none 0 0))
    generalize (((((((z1.setCell ⟨w.heap.size, 0, none⟩ (.int .i64 0)).setCell ⟨w.heap.size, 1, none⟩ (.int .u64 0)).setCell ⟨w.heap.size, 2, none⟩ (.int .u64 0)).setCell ⟨w.heap.size, 3, none⟩ (.int .i64 0)).setCell ⟨w.heap.size, 4, none⟩ (.int .i64 0)).setCell ⟨w.heap.size, 5, none⟩ (.int .u64 0)).setCell ⟨w.heap.size, 6, none⟩ (.slice none 0 0)) = w9 at *
    obtain ⟨d0, d1, d2, d3, d4, d5, d6, _⟩ := NB.rw7 r9
    have hlt9 := r9.lt
    refine bodyPost_ret (v := .tuple #[.agg #[Value.int .i64 0, .int .u64 0, .int .u64 0, .int .i64 0, .int .i64 0, .int .u64 0, .slice none 0 0], .int .i64 11]) (by simp [results, Try.results11, go_sem, d0, d1, d2, d3, d4, d5, d6, hlt9]) rfl ?_
    rw [HGF.out]
    exact getC_no B9
  | true =>
    rw [hk] at cc
    have hg : G = ((cmOf 3 cl sq 0 0 ps []), 0) := by rw [HGE.out, hk]; rfl
    have HGF := Go.Lib.hid hg
    have CC := Go.Lib.hid cc
    clear hg hk cc HGE
    go_wp2_with (first
      | (go_at_call 26; refine CE.out.mono ?_; rintro e w' ⟨rfl, e2⟩; subst w')
      | (go_at_call 27; refine CN.out.mono ?_; rintro e w' ⟨rfl, e2⟩; subst w')
      | (go_at_call 18; refine CC.out.mono ?_; rintro e z1 ⟨rfl, hbz⟩; simp only [if_true]; have rz := I.r2.below hbz; have rc := I.r6.below hbz; have Bz := NB.bel I.bel hbz I.bel.size; have hWz := hW.below hbz; clear c0 c1 c2 c3' c4 c5 c6 f0 f1 f2 f3 f4 f5 f6 e0 e1 e2 e3 e4 e5 e6; obtain ⟨c0, c1, c2, c3', c4, c5, c6, f0, f1, f2, f3, f4, f5, f6⟩ := NB.rw7 rz; obtain ⟨e0, e1, e2, e3, e4, e5, e6, _⟩ := NB.rw7 rc))
    have r9 := (((((((rz.set 0 (.int .i64 3)).set 1 (.int .u64 (cl : Int))).set 2 (.int .u64 (sq : Int))).set 3 (.int .i64 0)).set 4 (.int .i64 0)).set 5 (.int .u64 (ps : Int))).set 6 (.slice none 0 0))
    simp only [List.set] at r9
    have B9 : Below w.heap.size w (((((((z1.setCell ⟨w.heap.size, 0, none⟩ (.int .i64 3)).setCell ⟨w.heap.size, 1, none⟩ (.int .u64 (cl : Int))).setCell ⟨w.heap.size, 2, none⟩ (.int .u64 (sq : Int))).setCell ⟨w.heap.size, 3, none⟩ (.int .i64 0)).setCell ⟨w.heap.size, 4, none⟩ (.int .i64 0)).setCell ⟨w.heap.size, 5, none⟩ (.int .u64 (ps : Int))).setCell ⟨w.heap.size, 6, none⟩ (.slice none 0 0)) := (((((((Bz.setCell (p := ⟨_, 0, none⟩) (Nat.le_refl _) (.int .i64 3)).setCell (p := ⟨_, 1, none⟩) (Nat.le_refl _) (.int .u64 (cl : Int))).setCell (p := ⟨_, 2, none⟩) (Nat.le_refl _) (.int .u64 (sq : Int))).setCell (p := ⟨_, 3, none⟩) (Nat.le_refl _) (.int .i64 0)).setCell (p := ⟨_, 4, none⟩) (Nat.le_refl _) (.int .i64 0)).setCell (p := ⟨_, 5, none⟩) (Nat.le_refl _) (.int .u64 (ps : Int))).setCell (p := ⟨_, 6, none⟩) (Nat.le_refl _) (.slice none 0 0))
    have kz : Kp (fun k => k = w.heap.size) z1 (((((((z1.setCell ⟨w.heap.size, 0, none⟩ (.int .i64 3)).setCell ⟨w.heap.size, 1, none⟩ (.int .u64 (cl : Int))).setCell ⟨w.heap.size, 2, none⟩ (.int .u64 (sq : Int))).setCell ⟨w.heap.size, 3, none⟩ (.int .i64 0)).setCell ⟨w.heap.size, 4, none⟩ (.int .i64 0)).setCell ⟨w.heap.size, 5, none⟩ (.int .u64 (ps : Int))).setCell ⟨w.heap.size, 6, none⟩ (.slice none 0 0)) := ((((((((NB.Kp.refl (fun k => k = w.heap.size) z1).setCell (x := ⟨w.heap.size, 0, none⟩) (.inl rfl) (.int .i64 3)).setCell (x := ⟨w.heap.size, 1, none⟩) (.inl rfl) (.int .u64 (cl : Int))).setCell (x := ⟨w.heap.size, 2, none⟩) (.inl rfl) (.int .u64 (sq : Int))).setCell (x := ⟨w.heap.size, 3, none⟩) (.inl rfl) (.int .i64 0)).setCell (x := ⟨w.heap.size, 4, none⟩) (.inl rfl) (.int .i64 0)).setCell (x := ⟨w.heap.size, 5, none⟩) (.inl rfl) (.int .u64 (ps : Int))).setCell (x := ⟨w.heap.size, 6, none⟩) (.inl rfl) (.slice none 0 0))
    have hW9 := hWz.kp kz FAR.out
    clear kz
    generalize (((((((z1.setCell ⟨w.heap.size, 0, none⟩ (.int .i64 3)).setCell ⟨w.heap.size, 1, none⟩ (.int .u64 (cl : Int))).setCell ⟨w.heap.size, 2, none⟩ (.int .u64 (sq : Int))).setCell ⟨w.heap.size, 3, none⟩ (.int .i64 0)).setCell ⟨w.heap.size, 4, none⟩ (.int .i64 0)).setCell ⟨w.heap.size, 5, none⟩ (.int .u64 (ps : Int))).setCell ⟨w.heap.size, 6, none⟩ (.slice none 0 0)) = w9 at *
    obtain ⟨d0, d1, d2, d3, d4, d5, d6, _⟩ := NB.rw7 r9
    have hlt9 := r9.lt
    refine bodyPost_ret (v := .tuple #[.agg #[.int .i64 3, .int .u64 (cl : Int), .int .u64 (sq : Int), .int .i64 0, .int .i64 0, .int .u64 (ps : Int), .slice none 0 0], .int .i64 0]) (by simp [results, Try.results11, go_sem, d0, d1, d2, d3, d4, d5, d6, hlt9]) rfl ?_
    rw [HGF.out]
    exact ⟨none, 0, [], rfl, hW9, rfl, B9⟩

set_option maxRecDepth 100000 in
set_option maxHeartbeats 8000000 in
theorem cget_k4 (w : World) (a : Option Addr) (n c : Nat) (y : UInt8) (b : List UInt8) (h : NB.RdB w a n c (y :: b)) (hn8 : n ≤ 1000000) (hy : y.toNat = 4) : Calls Try.prog 11 #[.slice a n c] w (GetC w (getM (y :: b))) := by
  obtain ⟨m0, hm0⟩ : ∃ m0 : Rr, m0 = ⟨b, 0⟩ := ⟨_, rfl⟩
  have hP : fieldsP 4 m0 = (((rowsP m0)).1, ⟨4, 0, 0, 0, 0, 0, ((rowsP m0)).2⟩) := rfl
  have q1 := fun w base p g FC hh => crows_any w base p g FC m0 hh
  generalize rowsP m0 = U1 at *
  obtain ⟨m1, rl⟩ := U1
  simp only at q1 hP
  have Q1 := Go.Lib.hid q1
  clear q1
  rw [hm0] at hP
  have hgm := getM_of hy (by omega) hP
  have HGM := Go.Lib.hid hgm; have HM0 := Go.Lib.hid hm0; have HY := Go.Lib.hid hy
  clear hP hgm hm0 hy
  have hn := NB.RdB.size h
  have ob := oneB w (.cells #[Value.int .i64 0, .int .u64 0, .int .u64 0, .int .i64 0, .int .i64 0, .int .u64 0, .slice none 0 0] 27)
  have r2 := NB.rw_new w [Value.int .i64 0, .int .u64 0, .int .u64 0, .int .i64 0, .int .i64 0, .int .u64 0, .slice none 0 0] 27 rfl
  simp only [List.toArray] at r2
  have h1 := Rd.below h ob
  obtain ⟨G, hG⟩ : ∃ G, getM (y :: b) = G := ⟨_, rfl⟩
  rw [hG]
  have HG := Go.Lib.hid hG
  have hraw := raw_one y b
  have HRAW := Go.Lib.hid hraw
  have HN := Go.Lib.hid hn
  clear hG hraw hn
  go_enter Try.func11, Try.ntmps11
  go_wp2_with fail
  refine (rnew_any _ a n c (y :: b) h1 (by omega)).mono ?_
  rintro e w1 ⟨p, F, rfl, hR, hb1⟩
  have r21 := r2.below hb1
  have B1 := NB.bel ob hb1 ob.size
  clear r2 h1 hb1 ob
  have nf : ¬ F w.heap.size := fun hf => by have := (hR.foot _ hf).1; simp at this; omega
  have hF1 : ∀ k, F k → k < w1.heap.size := fun k hf => (hR.foot k hf).2
  have hbase : w.heap.size ≤ (w.alloc (.cells #[Value.int .i64 0, .int .u64 0, .int .u64 0, .int .i64 0, .int .i64 0, .int .u64 0, .slice none 0 0] 27)).heap.size := by simp
  have hbase2 : w.heap.size < (w.alloc (.cells #[Value.int .i64 0, .int .u64 0, .int .u64 0, .int .i64 0, .int .i64 0, .int .u64 0, .slice none 0 0] 27)).heap.size := by simp
  have hbg : (w.alloc (.cells #[Value.int .i64 0, .int .u64 0, .int .u64 0, .int .i64 0, .int .i64 0, .int .u64 0, .slice none 0 0] 27)).heap.size ≤ w1.heap.size := hR.base_le
  generalize (w.alloc (.cells #[Value.int .i64 0, .int .u64 0, .int .u64 0, .int .i64 0, .int .i64 0, .int .u64 0, .slice none 0 0] 27)).heap.size = base at *
  have rg := NB.rw_new w1 [.pointer (some ⟨p, 0, none⟩), .int .i64 0] 59 rfl
  simp only [List.toArray] at rg
  have ob2 := oneB w1 (.cells #[.pointer (some ⟨p, 0, none⟩), .int .i64 0] 59)
  have hR2 := hR.below ob2
  have r22 := r21.below ob2
  have B2 := NB.bel B1 ob2 B1.size
  have nfg : ¬ F w1.heap.size := fun hf => by have := hF1 _ hf; omega
  go_wp2_with fail
  generalize w1.alloc (.cells #[.pointer (some ⟨p, 0, none⟩), .int .i64 0] 59) = w2 at *
  generalize hgg : w1.heap.size = g at *
  clear hgg hF1 hR
  refine (rraw_any _ base p F _ 1 (by omega) hR2 (by show (y :: b).length ≤ _; have := HN.out; omega)).mono ?_
  rw [HRAW.out]
  rintro e w3 ⟨a3, c3, F3, rfl, ho3, hR3, hS3, _⟩
  simp only [List.length_singleton] at ho3 ⊢
  have r23 := r22.keep hS3.kp nf
  have rg3 := rg.keep hS3.kp nfg
  have n23 : ¬ F3 w.heap.size := fun hf => by have := (hR3.foot _ hf).1; omega
  have ng3 : ¬ F3 g := fun hf => (hS3.sub _ hf).elim nfg (fun hh => by have := rg.lt; omega)
  have B3 := NB.bel B2 (hR2.low hS3) hbase
  obtain ⟨a3', c3', e3, hr3, _, _⟩ := NB.rd_of_own ho3
  cases e3
  have hr3 : NB.RdB w3 a3 1 c3 [y] := hr3
  obtain ⟨b3, o3, rfl, hc3⟩ := NB.RdB.at hr3 (by omega)
  have q3 := hc3 0 (by omega)
  rw [Nat.add_zero, List.getD_cons_zero] at q3
  clear hR2 hS3 r21 r22 rg ob2 B1 B2 nf nfg hr3 hc3 ho3
  have hyi : (y.toNat : Int) = 4 := by have := HY.out; omega
  rw [hyi] at q3
  clear hyi
  have hC3 : HasC w3 base p g (fun k => k = g ∨ F3 k) m0 := ⟨F3, ⟨b, 0⟩, 0, hR3, rg3, ng3, hbg, fun h => absurd rfl h, by rw [HM0.out]; simp, rfl⟩
  clear hR3 rg3 ng3
  have r63 := NB.rw_new w3 [Value.int .i64 4, .int .u64 0, .int .u64 0, .int .i64 0, .int .i64 0, .int .u64 0, .slice none 0 0] 27 rfl
  simp only [List.toArray] at r63
  have ob3 := oneB w3 (.cells #[Value.int .i64 4, .int .u64 0, .int .u64 0, .int .i64 0, .int .i64 0, .int .u64 0, .slice none 0 0] 27)
  have hg2 := r23.lt
  go_wp2_with fail
  refine (of_any' _ 4 _ rfl (by omega)).mono ?_
  rintro e w5 ⟨rfl, hb5⟩
  simp only [ofV, hasV]
  have r7 := NB.rw_new w5 [Value.bool false, .bool false, .bool false, .bool false, .bool true] 62 rfl
  simp only [List.toArray] at r7
  have ob5 := oneB w5 (.cells #[Value.bool false, .bool false, .bool false, .bool false, .bool true] 62)
  have s35 : w3.heap.size < w5.heap.size := Nat.lt_of_lt_of_le (by simp) hb5.size
  have I : GetI w base p g w.heap.size w3.heap.size w5.heap.size [Value.int .i64 4, .int .u64 0, .int .u64 0, .int .i64 0, .int .i64 0, .int .u64 0, .slice none 0 0] [Value.bool false, .bool false, .bool false, .bool false, .bool true] (fun k => k = g ∨ F3 k) m0 (w5.alloc (.cells #[Value.bool false, .bool false, .bool false, .bool false, .bool true] 62)) :=
    ⟨((hC3.below ob3).below hb5).below ob5, ((r23.below ob3).below hb5).below ob5, (r63.below hb5).below ob5, r7, fun hf => hf.elim (fun e => by have := hbg; omega) n23, fun hf => by have := (hC3.foot _ hf).2; omega, fun hf => by have := (hC3.foot _ hf).2; omega, by omega, by omega, hbase, Nat.le_refl _, by omega, NB.bel (NB.bel (NB.bel B3 ob3 B3.size) hb5 (Nat.le_trans B3.size ob3.size)) ob5 (Nat.le_trans B3.size (by omega))⟩
  clear hC3 r63 ob3 hb5 r7 ob5 r23 B3 hg2 hbase hbase2 hbg n23 q3 HN HRAW
  obtain ⟨h0, h1, h2, h3, h4, _⟩ := NB.rw5 I.r7
  go_wp2_with fail
  generalize w5.alloc (.cells #[Value.bool false, .bool false, .bool false, .bool false, .bool true] 62) = w6 at *
  generalize w5.heap.size = g7 at *
  generalize w3.heap.size = g6 at *
  clear h0 h1 h2 h3 h4 s35
  have hlt6 := I.r6.lt
  have hlt2 := I.r2.lt
  refine (Q1.out _ base p g _ I.rd).mono ?_
  rintro e x1 ⟨a', c', L, E1, rfl, hW, hmap, hC, hS, hfa, hfx⟩
  simp only at hC hmap ⊢
  have I1 := I.step hC hS
  clear I hC hS
  have I := I1.set 6 (.slice a' L.length c')
  simp only [List.set] at I
  have far6 : FarW (fun k => k = g6) a' L := ⟨fun b o e hk => by have := hfa b o e; omega, fun x hx b o e hk => by have := hfx x hx b o e; omega⟩
  have far2 : FarW (fun k => k = w.heap.size) a' L := ⟨fun b o e hk => by have := hfa b o e; omega, fun x hx b o e hk => by have := hfx x hx b o e; omega⟩
  replace hW := hW.kp (NB.Kp.setCell (NB.Kp.refl (fun k => k = g6) _) (x := ⟨g6, 6, none⟩) (.inl rfl) (.slice a' L.length c')) far6
  have FAR := Go.Lib.hid far2
  have hLb := Rd.bound hW.rd
  obtain ⟨c0, c1, c2, c3', c4, c5, c6, f0, f1, f2, f3, f4, f5, f6⟩ := NB.rw7 I1.r6
  obtain ⟨h0, h1, h2, h3, h4, _⟩ := NB.rw5 I.r7
  clear I1 far6 far2 hfa hfx hlt6 hlt2
  go_wp2_with fail
  clear c0 c1 c2 c3' c4 c5 c6 f0 f1 f2 f3 f4 f5 f6 h0 h1 h2 h3 h4
  generalize x1.setCell ⟨g6, 6, none⟩ (.slice a' L.length c') = y1 at *
  have hG : G = if m1.e ≠ 0 then (cm0, m1.e) else if m1.b ≠ [] then (cm0, 12) else if checkB (cmOf 4 0 0 0 0 0 L) = true then ((cmOf 4 0 0 0 0 0 L), 0) else (cm0, 11) := by
    rw [← HG.out, HGM.out]
    rw [← hmap]
    rfl
  have HGG := Go.Lib.hid hG
  clear hG HGM HG
  have ce := cerr_any I.rd
  obtain ⟨c0, c1, c2, c3', c4, c5, c6, f0, f1, f2, f3, f4, f5, f6⟩ := NB.rw7 I.r2
  by_cases he : m1.e = 0
  case neg =>
    have hne : (m1.e != 0) = true := by simpa using he
    have hg : G = (cm0, m1.e) := by rw [HGG.out, if_pos he]
    have HGE := Go.Lib.hid hg
    clear hg he HGG
    have CE := Go.Lib.hid ce; clear ce
    generalize m1.e = me at *
    go_wp2_with (go_at_call 26; refine CE.out.mono ?_; rintro e w' ⟨rfl, e2⟩; subst w')
    have r9 := (((((((I.r2.set 0 (.int .i64 0)).set 1 (.int .u64 0)).set 2 (.int .u64 0)).set 3 (.int .i64 0)).set 4 (.int .i64 0)).set 5 (.int .u64 0)).set 6 (.slice none 0 0))
    simp only [List.set] at r9
    have B9 : Below w.heap.size w (((((((y1.setCell ⟨w.heap.size, 0, none⟩ (.int .i64 0)).setCell ⟨w.heap.size, 1, none⟩ (.int .u64 0)).setCell ⟨w.heap.size, 2, none⟩ (.int .u64 0)).setCell ⟨w.heap.size, 3, none⟩ (.int .i64 0)).setCell ⟨w.heap.size, 4, none⟩ (.int .i64 0)).setCell ⟨w.heap.size, 5, none⟩ (.int .u64 0)).setCell ⟨w.heap.size, 6, none⟩ (.slice none 0 0)) := (((((((I.bel.setCell (p := ⟨_, 0, none⟩) (Nat.le_refl _) (.int .i64 0)).setCell (p := ⟨_, 1, none⟩) (Nat.le_refl _) (.int .u64 0)).setCell (p := ⟨_, 2, none⟩) (Nat.le_refl _) (.int .u64 0)).setCell (p := ⟨_, 3, none⟩) (Nat.le_refl _) (.int .i64 0)).setCell (p := ⟨_, 4, none⟩) (Nat.le_refl _) (.int .i64 0)).setCell (p := ⟨_, 5, none⟩) (Nat.le_refl _) (.int .u64 0)).setCell (p := ⟨_, 6, none⟩) (Nat.le_refl _) (.slice none 0 0))
    generalize (((((((y1.setCell ⟨w.heap.size, 0, none⟩ (.int .i64 0)).setCell ⟨w.heap.size, 1, none⟩ (.int .u64 0)).setCell ⟨w.heap.size, 2, none⟩ (.int .u64 0)).setCell ⟨w.heap.size, 3, none⟩ (.int .i64 0)).setCell ⟨w.heap.size, 4, none⟩ (.int .i64 0)).setCell ⟨w.heap.size, 5, none⟩ (.int .u64 0)).setCell ⟨w.heap.size, 6, none⟩ (.slice none 0 0)) = w9 at *
    obtain ⟨d0, d1, d2, d3, d4, d5, d6, _⟩ := NB.rw7 r9
    have hlt9 := r9.lt
    refine bodyPost_ret (v := .tuple #[.agg #[Value.int .i64 0, .int .u64 0, .int .u64 0, .int .i64 0, .int .i64 0, .int .u64 0, .slice none 0 0], .int .i64 me]) (by simp [results, Try.results11, go_sem, d0, d1, d2, d3, d4, d5, d6, hlt9]) rfl ?_
    rw [HGE.out]
    exact getC_no B9
  obtain ⟨FI, hRI, hcI⟩ := I.rd.inner he
  have cn := rend_any _ base p FI m1 hRI
  rw [he] at ce
  have CE := Go.Lib.hid ce; clear ce
  by_cases hb : m1.b = []
  case neg =>
    have hfin : m1.fin = 12 := by rw [Rr.eta he, Rr.fin_ok, if_neg hb]
    rw [hfin] at cn
    have hg : G = (cm0, 12) := by rw [HGG.out, if_neg (fun h => h he), if_pos hb]
    have HGE := Go.Lib.hid hg
    clear hg he HGG hb hfin
    have CN := Go.Lib.hid cn; clear cn hRI
    go_wp2_with (first
      | (go_at_call 26; refine CE.out.mono ?_; rintro e w' ⟨rfl, e2⟩; subst w')
      | (go_at_call 27; refine CN.out.mono ?_; rintro e w' ⟨rfl, e2⟩; subst w'))
    have r9 := (((((((I.r2.set 0 (.int .i64 0)).set 1 (.int .u64 0)).set 2 (.int .u64 0)).set 3 (.int .i64 0)).set 4 (.int .i64 0)).set 5 (.int .u64 0)).set 6 (.slice none 0 0))
    simp only [List.set] at r9
    have B9 : Below w.heap.size w (((((((y1.setCell ⟨w.heap.size, 0, none⟩ (.int .i64 0)).setCell ⟨w.heap.size, 1, none⟩ (.int .u64 0)).setCell ⟨w.heap.size, 2, none⟩ (.int .u64 0)).setCell ⟨w.heap.size, 3, none⟩ (.int .i64 0)).setCell ⟨w.heap.size, 4, none⟩ (.int .i64 0)).setCell ⟨w.heap.size, 5, none⟩ (.int .u64 0)).setCell ⟨w.heap.size, 6, none⟩ (.slice none 0 0)) := (((((((I.bel.setCell (p := ⟨_, 0, none⟩) (Nat.le_refl _) (.int .i64 0)).setCell (p := ⟨_, 1, none⟩) (Nat.le_refl _) (.int .u64 0)).setCell (p := ⟨_, 2, none⟩) (Nat.le_refl _) (.int .u64 0)).setCell (p := ⟨_, 3, none⟩) (Nat.le_refl _) (.int .i64 0)).setCell (p := ⟨_, 4, none⟩) (Nat.le_refl _) (.int .i64 0)).setCell (p := ⟨_, 5, none⟩) (Nat.le_refl _) (.int .u64 0)).setCell (p := ⟨_, 6, none⟩) (Nat.le_refl _) (.slice none 0 0))
    generalize (((((((y1.setCell ⟨w.heap.size, 0, none⟩ (.int .i64 0)).setCell ⟨w.heap.size, 1, none⟩ (.int .u64 0)).setCell ⟨w.heap.size, 2, none⟩ (.int .u64 0)).setCell ⟨w.heap.size, 3, none⟩ (.int .i64 0)).setCell ⟨w.heap.size, 4, none⟩ (.int .i64 0)).setCell ⟨w.heap.size, 5, none⟩ (.int .u64 0)).setCell ⟨w.heap.size, 6, none⟩ (.slice none 0 0)) = w9 at *
    obtain ⟨d0, d1, d2, d3, d4, d5, d6, _⟩ := NB.rw7 r9
    have hlt9 := r9.lt
    refine bodyPost_ret (v := .tuple #[.agg #[Value.int .i64 0, .int .u64 0, .int .u64 0, .int .i64 0, .int .i64 0, .int .u64 0, .slice none 0 0], .int .i64 12]) (by simp [results, Try.results11, go_sem, d0, d1, d2, d3, d4, d5, d6, hlt9]) rfl ?_
    rw [HGE.out]
    exact getC_no B9
  have hfin : m1.fin = 0 := by rw [Rr.eta he, Rr.fin_ok, if_pos hb]
  rw [hfin] at cn
  have hg : G = if checkB (cmOf 4 0 0 0 0 0 L) = true then ((cmOf 4 0 0 0 0 0 L), 0) else (cm0, 11) := by rw [HGG.out, if_neg (fun h => h he), if_neg (fun h => h hb)]
  have cc := check_any y1 4 0 0 0 0 0 L.length c' a' L hW
  unfold checkM at cc
  have HGE := Go.Lib.hid hg
  clear hg he HGG hb hfin
  have CN := Go.Lib.hid cn; clear cn hRI
  obtain ⟨e0, e1, e2, e3, e4, e5, e6, _⟩ := NB.rw7 I.r6
  cases hk : checkB (cmOf 4 0 0 0 0 0 L) with
  | false =>
    rw [hk] at cc
    have hg : G = (cm0, 11) := by rw [HGE.out, hk]; rfl
    have HGF := Go.Lib.hid hg
    have CC := Go.Lib.hid cc
    clear hg hk cc HGE
    go_wp2_with (first
      | (go_at_call 26; refine CE.out.mono ?_; rintro e w' ⟨rfl, e2⟩; subst w')
      | (go_at_call 27; refine CN.out.mono ?_; rintro e w' ⟨rfl, e2⟩; subst w')
      | (go_at_call 18; refine CC.out.mono ?_; rintro e z1 ⟨rfl, hbz⟩; simp only [Bool.false_eq_true, if_false]; have rz := I.r2.below hbz; have Bz := NB.bel I.bel hbz I.bel.size; clear c0 c1 c2 c3' c4 c5 c6 f0 f1 f2 f3 f4 f5 f6; obtain ⟨c0, c1, c2, c3', c4, c5, c6, f0, f1, f2, f3, f4, f5, f6⟩ := NB.rw7 rz))
    have r9 := (((((((rz.set 0 (.int .i64 0)).set 1 (.int .u64 0)).set 2 (.int .u64 0)).set 3 (.int .i64 0)).set 4 (.int .i64 0)).set 5 (.int .u64 0)).set 6 (.slice none 0 0))
    simp only [List.set] at r9
    have B9 : Below w.heap.size w (((((((z1.setCell ⟨w.heap.size, 0, none⟩ (.int .i64 0)).setCell ⟨w.heap.size, 1, none⟩ (.int .u64 0)).setCell ⟨w.heap.size, 2, none⟩ (.int .u64 0)).setCell ⟨w.heap.size, 3, none⟩ (.int .i64 0)).setCell ⟨w.heap.size, 4, none⟩ (.int .i64 0)).setCell ⟨w.heap.size, 5, none⟩ (.int .u64 0)).setCell ⟨w.heap.size, 6, none⟩ (.slice none 0 0)) := (((((((Bz.setCell (p := ⟨_, 0, none⟩) (Nat.le_refl _) (.int .i64 0)).setCell (p := ⟨_, 1, none⟩) (Nat.le_refl _) (.int .u64 0)).setCell (p := ⟨_, 2, none⟩) (Nat.le_refl _) (.int .u64 0)).setCell (p := ⟨_, 3, none⟩) (Nat.le_refl _) (.int .i64 0)).setCell (p := ⟨_, 4, none⟩) (Nat.le_refl _) (.int .i64 0)).setCell (p := ⟨_, 5, none⟩) (Nat.le_refl _) (.int .u64 0)).setCell (p := ⟨_, 6, none⟩) (Nat.le_refl _) (.slice none 0 0))
    generalize (((((((z1.setCell ⟨w.heap.size, 0, none⟩ (.int .i64 0)).setCell ⟨w.heap.size, 1, none⟩ (.int .u64 0)).setCell ⟨w.heap.size, 2, none⟩ (.int .u64 0)).setCell ⟨w.heap.size, 3, none⟩ (.int .i64 0)).setCell ⟨w.heap.size, 4, none⟩ (.int .i64 0)).setCell ⟨w.heap.size, 5, none⟩ (.int .u64 0)).setCell ⟨w.heap.size, 6, none⟩ (.slice none 0 0)) = w9 at *
    obtain ⟨d0, d1, d2, d3, d4, d5, d6, _⟩ := NB.rw7 r9
    have hlt9 := r9.lt
    refine bodyPost_ret (v := .tuple #[.agg #[Value.int .i64 0, .int .u64 0, .int .u64 0, .int .i64 0, .int .i64 0, .int .u64 0, .slice none 0 0], .int .i64 11]) (by simp [results, Try.results11, go_sem, d0, d1, d2, d3, d4, d5, d6, hlt9]) rfl ?_
    rw [HGF.out]
    exact getC_no B9
  | true =>
    rw [hk] at cc
    have hg : G = ((cmOf 4 0 0 0 0 0 L), 0) := by rw [HGE.out, hk]; rfl
    have HGF := Go.Lib.hid hg
    have CC := Go.Lib.hid cc
    clear hg hk cc HGE
    go_wp2_with (first
      | (go_at_call 26; refine CE.out.mono ?_; rintro e w' ⟨rfl, e2⟩; subst w')
      | (go_at_call 27; refine CN.out.mono ?_; rintro e w' ⟨rfl, e2⟩; subst w')
      | (go_at_call 18; refine CC.out.mono ?_; rintro e z1 ⟨rfl, hbz⟩; simp only [if_true]; have rz := I.r2.below hbz; have rc := I.r6.below hbz; have Bz := NB.bel I.bel hbz I.bel.size; have hWz := hW.below hbz; clear c0 c1 c2 c3' c4 c5 c6 f0 f1 f2 f3 f4 f5 f6 e0 e1 e2 e3 e4 e5 e6; obtain ⟨c0, c1, c2, c3', c4, c5, c6, f0, f1, f2, f3, f4, f5, f6⟩ := NB.rw7 rz; obtain ⟨e0, e1, e2, e3, e4, e5, e6, _⟩ := NB.rw7 rc))
    have r9 := (((((((rz.set 0 (.int .i64 4)).set 1 (.int .u64 0)).set 2 (.int .u64 0)).set 3 (.int .i64 0)).set 4 (.int .i64 0)).set 5 (.int .u64 0)).set 6 (.slice a' L.length c'))
    simp only [List.set] at r9
    have B9 : Below w.heap.size w (((((((z1.setCell ⟨w.heap.size, 0, none⟩ (.int .i64 4)).setCell ⟨w.heap.size, 1, none⟩ (.int .u64 0)).setCell ⟨w.heap.size, 2, none⟩ (.int .u64 0)).setCell ⟨w.heap.size, 3, none⟩ (.int .i64 0)).setCell ⟨w.heap.size, 4, none⟩ (.int .i64 0)).setCell ⟨w.heap.size, 5, none⟩ (.int .u64 0)).setCell ⟨w.heap.size, 6, none⟩ (.slice a' L.length c')) := (((((((Bz.setCell (p := ⟨_, 0, none⟩) (Nat.le_refl _) (.int .i64 4)).setCell (p := ⟨_, 1, none⟩) (Nat.le_refl _) (.int .u64 0)).setCell (p := ⟨_, 2, none⟩) (Nat.le_refl _) (.int .u64 0)).setCell (p := ⟨_, 3, none⟩) (Nat.le_refl _) (.int .i64 0)).setCell (p := ⟨_, 4, none⟩) (Nat.le_refl _) (.int .i64 0)).setCell (p := ⟨_, 5, none⟩) (Nat.le_refl _) (.int .u64 0)).setCell (p := ⟨_, 6, none⟩) (Nat.le_refl _) (.slice a' L.length c'))
    have kz : Kp (fun k => k = w.heap.size) z1 (((((((z1.setCell ⟨w.heap.size, 0, none⟩ (.int .i64 4)).setCell ⟨w.heap.size, 1, none⟩ (.int .u64 0)).setCell ⟨w.heap.size, 2, none⟩ (.int .u64 0)).setCell ⟨w.heap.size, 3, none⟩ (.int .i64 0)).setCell ⟨w.heap.size, 4, none⟩ (.int .i64 0)).setCell ⟨w.heap.size, 5, none⟩ (.int .u64 0)).setCell ⟨w.heap.size, 6, none⟩ (.slice a' L.length c')) := ((((((((NB.Kp.refl (fun k => k = w.heap.size) z1).setCell (x := ⟨w.heap.size, 0, none⟩) (.inl rfl) (.int .i64 4)).setCell (x := ⟨w.heap.size, 1, none⟩) (.inl rfl) (.int .u64 0)).setCell (x := ⟨w.heap.size, 2, none⟩) (.inl rfl) (.int .u64 0)).setCell (x := ⟨w.heap.size, 3, none⟩) (.inl rfl) (.int .i64 0)).setCell (x := ⟨w.heap.size, 4, none⟩) (.inl rfl) (.int .i64 0)).setCell (x := ⟨w.heap.size, 5, none⟩) (.inl rfl) (.int .u64 0)).setCell (x := ⟨w.heap.size, 6, none⟩) (.inl rfl) (.slice a' L.length c'))
    have hW9 := hWz.kp kz FAR.out
    clear kz
    generalize (((((((z1.setCell ⟨w.heap.size, 0, none⟩ (.int .i64 4)).setCell ⟨w.heap.size, 1, none⟩ (.int .u64 0)).setCell ⟨w.heap.size, 2, none⟩ (.int .u64 0)).setCell ⟨w.heap.size, 3, none⟩ (.int .i64 0)).setCell ⟨w.heap.size, 4, none⟩ (.int .i64 0)).setCell ⟨w.heap.size, 5, none⟩ (.int .u64 0)).setCell ⟨w.heap.size, 6, none⟩ (.slice a' L.length c')) = w9 at *
    obtain ⟨d0, d1, d2, d3, d4, d5, d6, _⟩ := NB.rw7 r9
    have hlt9 := r9.lt
    refine bodyPost_ret (v := .tuple #[.agg #[.int .i64 4, .int .u64 0, .int .u64 0, .int .i64 0, .int .i64 0, .int .u64 0, .slice a' L.length c'], .int .i64 0]) (by simp [results, Try.results11, go_sem, d0, d1, d2, d3, d4, d5, d6, hlt9]) rfl ?_
    rw [HGF.out]
    exact ⟨a', c', L, rfl, hW9, rfl, B9⟩
end Go.Proofs.Ytnkmlopgfgdajaa
