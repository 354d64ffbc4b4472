/- The reference's Same, walked. -/
import Derived.Test.YtnkmlopgfgdajaaCfa
import Derived.Test.YtnkmlopgfgdajaaCfc
import Derived.Test.YtnkmlopgfgdajaaTail
namespace Go.Proofs.Ytnkmlopgfgdajaa
open Go.RowKit
open Go.NB (Rd RdU Rr Rw oneB dB)

/-- Whether two commands are the same. -/
def SameE (w : World) (A B : Cm) (e : Ending) (w' : World) : Prop := ∃ V : Bool, e = .returned (.bool V) ∧ (V = true ↔ A = B) ∧ Below w.heap.size w w'
theorem same_no {w w' : World} {A B : Cm} (h : ¬ A = B) (hb : Below w.heap.size w w') : SameE w A B (.returned (.bool false)) w' := ⟨false, rfl, ⟨fun h2 => (nomatch h2), fun h2 => absurd h2 h⟩, hb⟩
theorem cm_rows {op sh sg : Int} {cl sq ps : Nat} {L1 L2 : List Iw} (h : cmOf op cl sq sh sg ps L1 = cmOf op cl sq sh sg ps L2) : L1.map rlOf = L2.map rlOf := congrArg Cm.rows h
theorem take_next {α : Type} {A B : List α} {k : Nat} {x : α} (h : A.take k = B.take k) (h1 : A[k]? = some x) (h2 : B[k]? = some x) : A.take (k + 1) = B.take (k + 1) := by
  rw [List.take_add_one, List.take_add_one, h, h1, h2]

set_option maxRecDepth 100000 in
set_option maxHeartbeats 16000000 in
theorem same_any (w : World) (op1 sh1 sg1 op2 sh2 sg2 : Int) (cl1 sq1 ps1 n1 c1 cl2 sq2 ps2 n2 c2 : Nat) (a1 a2 : Option Addr) (L1 L2 : List Iw) (h1 : RdW w a1 n1 c1 L1) (h2 : RdW w a2 n2 c2 L2) :
    Calls Try.prog 13 #[.agg #[.int .i64 op1, .int .u64 (cl1 : Int), .int .u64 (sq1 : Int), .int .i64 sh1, .int .i64 sg1, .int .u64 (ps1 : Int), .slice a1 n1 c1], .agg #[.int .i64 op2, .int .u64 (cl2 : Int), .int .u64 (sq2 : Int), .int .i64 sh2, .int .i64 sg2, .int .u64 (ps2 : Int), .slice a2 n2 c2]] w (SameE w (cmOf op1 cl1 sq1 sh1 sg1 ps1 L1) (cmOf op2 cl2 sq2 sh2 sg2 ps2 L2)) := by
  have hb1 := Rd.bound h1.rd
  have hb2 := Rd.bound h2.rd
  have BB : Below w.heap.size w ((w.alloc (.cells #[.int .i64 op1, .int .u64 (cl1 : Int), .int .u64 (sq1 : Int), .int .i64 sh1, .int .i64 sg1, .int .u64 (ps1 : Int), .slice a1 n1 c1] 33)).alloc (.cells #[.int .i64 op2, .int .u64 (cl2 : Int), .int .u64 (sq2 : Int), .int .i64 sh2, .int .i64 sg2, .int .u64 (ps2 : Int), .slice a2 n2 c2] 33)) := NB.twoB _ _ _
  obtain ⟨C1, hC1⟩ : ∃ C, C = cmOf op1 cl1 sq1 sh1 sg1 ps1 L1 := ⟨_, rfl⟩
  obtain ⟨C2, hC2⟩ : ∃ C, C = cmOf op2 cl2 sq2 sh2 sg2 ps2 L2 := ⟨_, rfl⟩
  rw [← hC1, ← hC2]
  have HC1 := Go.Lib.hid hC1; have HC2 := Go.Lib.hid hC2
  clear hC1 hC2
  by_cases hop : op1 = op2
  case neg =>
    have hb : (op1 != op2) = true := by simp; omega
    have hne : ¬ C1 = C2 := fun h => hop (by rw [HC1.out, HC2.out] at h; exact congrArg Cm.op h)
    have HNE := Go.Lib.hid hne
    clear hne hop
    go_enter Try.func13, Try.ntmps13
    go_wp2_with fail
    go_ret
    exact same_no HNE.out BB
  subst hop
  by_cases hcl : cl1 = cl2
  case neg =>
    have hb : ((cl1 : Int) != (cl2 : Int)) = true := by simp; omega
    have hne : ¬ C1 = C2 := fun h => hcl (by rw [HC1.out, HC2.out] at h; exact congrArg Cm.client h)
    have HNE := Go.Lib.hid hne
    clear hne hcl
    go_enter Try.func13, Try.ntmps13
    go_wp2_with fail
    go_ret
    exact same_no HNE.out BB
  subst hcl
  by_cases hsq : sq1 = sq2
  case neg =>
    have hb : ((sq1 : Int) != (sq2 : Int)) = true := by simp; omega
    have hne : ¬ C1 = C2 := fun h => hsq (by rw [HC1.out, HC2.out] at h; exact congrArg Cm.seq h)
    have HNE := Go.Lib.hid hne
    clear hne hsq
    go_enter Try.func13, Try.ntmps13
    go_wp2_with fail
    go_ret
    exact same_no HNE.out BB
  subst hsq
  by_cases hsh : sh1 = sh2
  case neg =>
    have hb : (sh1 != sh2) = true := by simp; omega
    have hne : ¬ C1 = C2 := fun h => hsh (by rw [HC1.out, HC2.out] at h; exact congrArg Cm.shard h)
    have HNE := Go.Lib.hid hne
    clear hne hsh
    go_enter Try.func13, Try.ntmps13
    go_wp2_with fail
    go_ret
    exact same_no HNE.out BB
  subst hsh
  by_cases hsg : sg1 = sg2
  case neg =>
    have hb : (sg1 != sg2) = true := by simp; omega
    have hne : ¬ C1 = C2 := fun h => hsg (by rw [HC1.out, HC2.out] at h; exact congrArg Cm.segs h)
    have HNE := Go.Lib.hid hne
    clear hne hsg
    go_enter Try.func13, Try.ntmps13
    go_wp2_with fail
    go_ret
    exact same_no HNE.out BB
  subst hsg
  by_cases hps : ps1 = ps2
  case neg =>
    have hb : ((ps1 : Int) != (ps2 : Int)) = true := by simp; omega
    have hne : ¬ C1 = C2 := fun h => hps (by rw [HC1.out, HC2.out] at h; exact congrArg Cm.pos h)
    have HNE := Go.Lib.hid hne
    clear hne hps
    go_enter Try.func13, Try.ntmps13
    go_wp2_with fail
    go_ret
    exact same_no HNE.out BB
  subst hps
  by_cases hn : n1 = n2
  case neg =>
    have hb : ((n1 : Int) != (n2 : Int)) = true := by simp; omega
    have hne : ¬ C1 = C2 := fun h => hn (by
      rw [HC1.out, HC2.out] at h
      have := congrArg List.length (cm_rows h)
      rw [List.length_map, List.length_map, h1.len, h2.len] at this
      exact this)
    have HNE := Go.Lib.hid hne
    clear hne hn
    go_enter Try.func13, Try.ntmps13
    go_wp2_with fail
    go_ret
    exact same_no HNE.out BB
  subst hn
  have r1 : Rw ((w.alloc (.cells #[.int .i64 op1, .int .u64 (cl1 : Int), .int .u64 (sq1 : Int), .int .i64 sh1, .int .i64 sg1, .int .u64 (ps1 : Int), .slice a1 n1 c1] 33)).alloc (.cells #[.int .i64 op1, .int .u64 (cl1 : Int), .int .u64 (sq1 : Int), .int .i64 sh1, .int .i64 sg1, .int .u64 (ps1 : Int), .slice a2 n1 c2] 33)) w.heap.size [Value.int .i64 op1, .int .u64 (cl1 : Int), .int .u64 (sq1 : Int), .int .i64 sh1, .int .i64 sg1, .int .u64 (ps1 : Int), .slice a1 n1 c1] 33 := (NB.rw_new w [Value.int .i64 op1, .int .u64 (cl1 : Int), .int .u64 (sq1 : Int), .int .i64 sh1, .int .i64 sg1, .int .u64 (ps1 : Int), .slice a1 n1 c1] 33 rfl).below (oneB _ _)
  have r2 : Rw ((w.alloc (.cells #[.int .i64 op1, .int .u64 (cl1 : Int), .int .u64 (sq1 : Int), .int .i64 sh1, .int .i64 sg1, .int .u64 (ps1 : Int), .slice a1 n1 c1] 33)).alloc (.cells #[.int .i64 op1, .int .u64 (cl1 : Int), .int .u64 (sq1 : Int), .int .i64 sh1, .int .i64 sg1, .int .u64 (ps1 : Int), .slice a2 n1 c2] 33)) (w.heap.size + 1) [Value.int .i64 op1, .int .u64 (cl1 : Int), .int .u64 (sq1 : Int), .int .i64 sh1, .int .i64 sg1, .int .u64 (ps1 : Int), .slice a2 n1 c2] 33 := NB.rw_new (w.alloc (.cells #[.int .i64 op1, .int .u64 (cl1 : Int), .int .u64 (sq1 : Int), .int .i64 sh1, .int .i64 sg1, .int .u64 (ps1 : Int), .slice a1 n1 c1] 33)) [Value.int .i64 op1, .int .u64 (cl1 : Int), .int .u64 (sq1 : Int), .int .i64 sh1, .int .i64 sg1, .int .u64 (ps1 : Int), .slice a2 n1 c2] 33 (by simp)
  have hno : ¬ L1.map rlOf = L2.map rlOf → ¬ C1 = C2 := fun hh h => hh (by rw [HC1.out, HC2.out] at h; exact cm_rows h)
  have hyes : L1.map rlOf = L2.map rlOf → C1 = C2 := fun hh => by rw [HC1.out, HC2.out]; unfold cmOf; rw [hh]
  have HNO := Go.Lib.hid hno; have HYES := Go.Lib.hid hyes
  have HL1 := Go.Lib.hid h1.len; have HL2 := Go.Lib.hid h2.len
  clear hno hyes HC1 HC2
  go_enter Try.func13, Try.ntmps13
  go_wp2_with fail
  generalize (w.alloc (.cells #[.int .i64 op1, .int .u64 (cl1 : Int), .int .u64 (sq1 : Int), .int .i64 sh1, .int .i64 sg1, .int .u64 (ps1 : Int), .slice a1 n1 c1] 33)).alloc (.cells #[.int .i64 op1, .int .u64 (cl1 : Int), .int .u64 (sq1 : Int), .int .i64 sh1, .int .i64 sg1, .int .u64 (ps1 : Int), .slice a2 n1 c2] 33) = w1 at *
  go_loopw [5] (fun x wr => ∃ i : Nat, i ≤ n1 ∧ x = .int .i64 (i : Int) ∧ (L1.map rlOf).take i = (L2.map rlOf).take i ∧ Below w.heap.size w wr ∧ Below w1.heap.size w1 wr) (fun x _ => n1 - (intOf x).toNat)
  case atStart => exact ⟨0, by omega, rfl, rfl, BB, Below.refl _ _⟩
  case round =>
    obtain ⟨i, hi, rfl, htk, B, B1⟩ := hrel
    have q1r := r1.below B1
    have q2r := r2.below B1
    have HTK := Go.Lib.hid htk
    clear htk
    by_cases hlt : i < n1
    case neg =>
      have hii : ¬ (i : Int) < (n1 : Int) := by omega
      obtain rfl : i = n1 := by omega
      obtain ⟨c0, c1', c2', c3, c4, c5, c6, _⟩ := NB.rw7 q1r
      have heq : C1 = C2 := HYES.out (by
        have := HTK.out
        rwa [List.take_of_length_le (by rw [List.length_map]; have := HL1.out; omega), List.take_of_length_le (by rw [List.length_map]; have := HL2.out; omega)] at this)
      have HE := Go.Lib.hid heq
      clear heq
      go_wp2_with fail
      go_ret
      exact ⟨true, rfl, ⟨fun _ => HE.out, fun _ => rfl⟩, B⟩
    have hii : (i : Int) < (n1 : Int) := by omega
    obtain ⟨b1, o1, x1, rfl, hx1, p0w, p1w, rx1⟩ := (h1.below B).at i hlt
    obtain ⟨b2, o2, x2, rfl, hx2, q0w, q1w, rx2⟩ := (h2.below B).at i hlt
    obtain ⟨s1, xa1, m1, k1, l1⟩ := x1
    obtain ⟨s2, xa2, m2, k2, l2⟩ := x2
    simp only at p0w p1w rx1 q0w q1w rx2
    have g1 : (L1.map rlOf)[i]? = some ⟨s1, l1⟩ := by rw [List.getElem?_map, hx1]; rfl
    have g2 : (L2.map rlOf)[i]? = some ⟨s2, l2⟩ := by rw [List.getElem?_map, hx2]; rfl
    have hdiff : (⟨s1, l1⟩ : Rl) ≠ ⟨s2, l2⟩ → ¬ C1 = C2 := fun hne => HNO.out (fun h => hne (by rw [h, g2] at g1; exact (Option.some.inj g1).symm))
    have hnext : (⟨s1, l1⟩ : Rl) = ⟨s2, l2⟩ → (L1.map rlOf).take (i + 1) = (L2.map rlOf).take (i + 1) := fun he => take_next HTK.out g1 (by rw [he]; exact g2)
    have HD := Go.Lib.hid hdiff; have HNX := Go.Lib.hid hnext
    have hm1 := NB.RdU.size rx1
    have hm2 := NB.RdU.size rx2
    have HM1 := Go.Lib.hid hm1; have HM2 := Go.Lib.hid hm2
    have hxb1 := Rd.bound rx1.1
    have hxb2 := Rd.bound rx2.1
    clear hdiff hnext g1 g2 hx1 hx2 hm1 hm2
    have dd := dB wr
    have B8 := B.drew
    have B18 := B1.drew
    have lc := fun (b o : Nat) (v : Value) (hc : wr.cell? ⟨b, o, none⟩ = some v) => (dd.cell (p := ⟨b, o, none⟩) (World.block_lt_of_cell? wr _ hc)).trans hc
    have p0 := lc _ _ _ p0w; have p1 := lc _ _ _ p1w; have q0 := lc _ _ _ q0w; have q1 := lc _ _ _ q1w
    have z1 := q1r.below dd
    have z2 := q2r.below dd
    have y1 := rx1.below dd
    have y2 := rx2.below dd
    obtain ⟨_, _, _, _, _, _, c6w, _⟩ := NB.rw7 q1r
    go_wp2_with fail
    obtain ⟨_, _, _, _, _, _, c6, _⟩ := NB.rw7 z1
    obtain ⟨_, _, _, _, _, _, d6, _⟩ := NB.rw7 z2
    clear lc dd p0w p1w q0w q1w q1r q2r rx1 rx2 B B1 c6w
    refine NB.wp_region_t [] (by kernel_rfl) ?_
    generalize wr.drew = w8 at *
    by_cases hs : s1 = s2
    case neg =>
      have hb : (s1 != s2) = true := by simp; omega
      have hne := HD.out (fun h => hs (congrArg Rl.s h))
      have HNE := Go.Lib.hid hne
      clear hne hs HD HNX HNO HYES
      refine NB.t_p 0 rfl (by kernel_rfl) (fun K hK => ?_); go_simp; refine hK _ ?_; clear hK K
      refine NB.t_r 1 [3, 4, 5, 12, 13, 14, 15, 16, 17, 18, 19, 20, 21, 22, 23, 24, 25, 26, 27, 28, 29] rfl (by kernel_rfl) (by kernel_rfl) (by go_simp) _ (fun w' hw' => NB.run_op_load rfl rfl Try.underlying31 rfl c6 hw') (fun K hK => ?_); go_simp; refine hK _ ?_; clear hK K
      refine NB.t_p 2 rfl (by kernel_rfl) (fun K hK => ?_); go_simp; refine hK _ ?_; clear hK K
      refine NB.t_p 3 rfl (by kernel_rfl) (fun K hK => ?_); go_simp; refine hK _ ?_; clear hK K
      refine NB.t_p 4 rfl (by kernel_rfl) (fun K hK => ?_); go_simp; refine hK _ ?_; clear hK K
      refine NB.t_r 5 [12, 13, 14, 15, 16, 17, 18, 19, 20, 21, 22, 23, 24, 25, 26, 27, 28, 29] rfl (by kernel_rfl) (by kernel_rfl) (by go_simp) _ (fun w' hw' => NB.run_op_load rfl rfl Try.underlying3 rfl p0 hw') (fun K hK => ?_); go_simp; refine hK _ ?_; clear hK K
      refine NB.t_p 6 rfl (by kernel_rfl) (fun K hK => ?_); go_simp; refine hK _ ?_; clear hK K
      refine NB.t_r 7 [9, 10, 11, 12, 13, 14, 15, 16, 17, 18, 19, 20, 21, 22, 23, 24, 25, 26, 27, 28, 29] rfl (by kernel_rfl) (by kernel_rfl) (by go_simp) _ (fun w' hw' => NB.run_op_load rfl rfl Try.underlying31 rfl d6 hw') (fun K hK => ?_); go_simp; refine hK _ ?_; clear hK K
      refine NB.t_p 8 rfl (by kernel_rfl) (fun K hK => ?_); go_simp; refine hK _ ?_; clear hK K
      refine NB.t_p 9 rfl (by kernel_rfl) (fun K hK => ?_); go_simp; refine hK _ ?_; clear hK K
      refine NB.t_p 10 rfl (by kernel_rfl) (fun K hK => ?_); go_simp; refine hK _ ?_; clear hK K
      refine NB.t_r 11 [12, 13, 14, 15, 16, 17, 18, 19, 20, 21, 22, 23, 24, 25, 26, 27, 28, 29] rfl (by kernel_rfl) (by kernel_rfl) (by go_simp) _ (fun w' hw' => NB.run_op_load rfl rfl Try.underlying3 rfl q0 hw') (fun K hK => ?_); go_simp; refine hK _ ?_; clear hK K
      refine NB.t_p 12 rfl (by kernel_rfl) (fun K hK => ?_); go_simp; refine hK _ ?_; clear hK K
      refine NB.t_p 13 rfl (by kernel_rfl) (fun K hK => ?_); go_simp; refine hK _ ?_; clear hK K
      refine NB.t_p 14 rfl (by kernel_rfl) (fun K hK => ?_); go_simp; refine hK _ ?_; clear hK K
      refine NB.t_p 15 rfl (by kernel_rfl) (fun K hK => ?_); go_simp; refine hK _ ?_; clear hK K
      refine NB.t_p 16 rfl (by kernel_rfl) (fun K hK => ?_); go_simp; refine hK _ ?_; clear hK K
      refine NB.t_p 17 rfl (by kernel_rfl) (fun K hK => ?_); go_simp; refine hK _ ?_; clear hK K
      refine NB.t_p 18 rfl (by kernel_rfl) (fun K hK => ?_); go_simp; refine hK _ ?_; clear hK K
      refine NB.t_p 19 rfl (by kernel_rfl) (fun K hK => ?_); go_simp; refine hK _ ?_; clear hK K
      refine NB.t_p 20 rfl (by kernel_rfl) (fun K hK => ?_); go_simp; refine hK _ ?_; clear hK K
      refine NB.t_p 21 rfl (by kernel_rfl) (fun K hK => ?_); go_simp; refine hK _ ?_; clear hK K
      refine NB.t_p 22 rfl (by kernel_rfl) (fun K hK => ?_); go_simp; refine hK _ ?_; clear hK K
      refine NB.t_p 23 rfl (by kernel_rfl) (fun K hK => ?_); go_simp; refine hK _ ?_; clear hK K
      refine NB.t_p 24 rfl (by kernel_rfl) (fun K hK => ?_); go_simp; refine hK _ ?_; clear hK K
      refine NB.t_p 25 rfl (by kernel_rfl) (fun K hK => ?_); go_simp; refine hK _ ?_; clear hK K
      refine NB.t_p 26 rfl (by kernel_rfl) (fun K hK => ?_); go_simp; refine hK _ ?_; clear hK K
      refine NB.t_p 27 rfl (by kernel_rfl) (fun K hK => ?_); go_simp; refine hK _ ?_; clear hK K
      refine NB.t_p 28 rfl (by kernel_rfl) (fun K hK => ?_); go_simp; refine hK _ ?_; clear hK K
      refine NB.t_p 29 rfl (by kernel_rfl) (fun K hK => ?_); go_simp; refine hK _ ?_; clear hK K
      refine NB.t_end (by kernel_rfl) ?_
      go_wp2_with fail
      go_ret
      exact same_no HNE.out B8
    subst hs
    by_cases hm : m1 = m2
    case neg =>
      have hb : ((m1 : Int) != (m2 : Int)) = true := by simp; omega
      have hne := HD.out (fun h => hm (by
        have := congrArg (fun r : Rl => r.l.length) h
        simp only at this
        rw [HM1.out, HM2.out] at this
        exact this))
      have HNE := Go.Lib.hid hne
      clear hne hm HD HNX HNO HYES
      refine NB.t_p 0 rfl (by kernel_rfl) (fun K hK => ?_); go_simp; refine hK _ ?_; clear hK K
      refine NB.t_r 1 [3, 4, 5, 12, 13, 14, 15, 16, 17, 18, 19, 20, 21, 22, 23, 24, 25, 26, 27, 28, 29] rfl (by kernel_rfl) (by kernel_rfl) (by go_simp) _ (fun w' hw' => NB.run_op_load rfl rfl Try.underlying31 rfl c6 hw') (fun K hK => ?_); go_simp; refine hK _ ?_; clear hK K
      refine NB.t_p 2 rfl (by kernel_rfl) (fun K hK => ?_); go_simp; refine hK _ ?_; clear hK K
      refine NB.t_p 3 rfl (by kernel_rfl) (fun K hK => ?_); go_simp; refine hK _ ?_; clear hK K
      refine NB.t_p 4 rfl (by kernel_rfl) (fun K hK => ?_); go_simp; refine hK _ ?_; clear hK K
      refine NB.t_r 5 [12, 13, 14, 15, 16, 17, 18, 19, 20, 21, 22, 23, 24, 25, 26, 27, 28, 29] rfl (by kernel_rfl) (by kernel_rfl) (by go_simp) _ (fun w' hw' => NB.run_op_load rfl rfl Try.underlying3 rfl p0 hw') (fun K hK => ?_); go_simp; refine hK _ ?_; clear hK K
      refine NB.t_p 6 rfl (by kernel_rfl) (fun K hK => ?_); go_simp; refine hK _ ?_; clear hK K
      refine NB.t_r 7 [9, 10, 11, 12, 13, 14, 15, 16, 17, 18, 19, 20, 21, 22, 23, 24, 25, 26, 27, 28, 29] rfl (by kernel_rfl) (by kernel_rfl) (by go_simp) _ (fun w' hw' => NB.run_op_load rfl rfl Try.underlying31 rfl d6 hw') (fun K hK => ?_); go_simp; refine hK _ ?_; clear hK K
      refine NB.t_p 8 rfl (by kernel_rfl) (fun K hK => ?_); go_simp; refine hK _ ?_; clear hK K
      refine NB.t_p 9 rfl (by kernel_rfl) (fun K hK => ?_); go_simp; refine hK _ ?_; clear hK K
      refine NB.t_p 10 rfl (by kernel_rfl) (fun K hK => ?_); go_simp; refine hK _ ?_; clear hK K
      refine NB.t_r 11 [12, 13, 14, 15, 16, 17, 18, 19, 20, 21, 22, 23, 24, 25, 26, 27, 28, 29] rfl (by kernel_rfl) (by kernel_rfl) (by go_simp) _ (fun w' hw' => NB.run_op_load rfl rfl Try.underlying3 rfl q0 hw') (fun K hK => ?_); go_simp; refine hK _ ?_; clear hK K
      refine NB.t_p 12 rfl (by kernel_rfl) (fun K hK => ?_); go_simp; refine hK _ ?_; clear hK K
      refine NB.t_p 13 rfl (by kernel_rfl) (fun K hK => ?_); go_simp; refine hK _ ?_; clear hK K
      refine NB.t_p 14 rfl (by kernel_rfl) (fun K hK => ?_); go_simp; refine hK _ ?_; clear hK K
      refine NB.t_r 15 [17, 18, 19, 20, 28, 29] rfl (by kernel_rfl) (by kernel_rfl) (by go_simp) _ (fun w' hw' => NB.run_op_load rfl rfl Try.underlying31 rfl c6 hw') (fun K hK => ?_); go_simp; refine hK _ ?_; clear hK K
      refine NB.t_p 16 rfl (by kernel_rfl) (fun K hK => ?_); go_simp; refine hK _ ?_; clear hK K
      refine NB.t_p 17 rfl (by kernel_rfl) (fun K hK => ?_); go_simp; refine hK _ ?_; clear hK K
      refine NB.t_p 18 rfl (by kernel_rfl) (fun K hK => ?_); go_simp; refine hK _ ?_; clear hK K
      refine NB.t_r 19 [20, 28, 29] rfl (by kernel_rfl) (by kernel_rfl) (by go_simp) _ (fun w' hw' => NB.run_op_load rfl rfl Try.underlying48 rfl p1 hw') (fun K hK => ?_); go_simp; refine hK _ ?_; clear hK K
      refine NB.t_p 20 rfl (by kernel_rfl) (fun K hK => ?_); go_simp; refine hK _ ?_; clear hK K
      refine NB.t_p 21 rfl (by kernel_rfl) (fun K hK => ?_); go_simp; refine hK _ ?_; clear hK K
      refine NB.t_r 22 [24, 25, 26, 27, 28, 29] rfl (by kernel_rfl) (by kernel_rfl) (by go_simp) _ (fun w' hw' => NB.run_op_load rfl rfl Try.underlying31 rfl d6 hw') (fun K hK => ?_); go_simp; refine hK _ ?_; clear hK K
      refine NB.t_p 23 rfl (by kernel_rfl) (fun K hK => ?_); go_simp; refine hK _ ?_; clear hK K
      refine NB.t_p 24 rfl (by kernel_rfl) (fun K hK => ?_); go_simp; refine hK _ ?_; clear hK K
      refine NB.t_p 25 rfl (by kernel_rfl) (fun K hK => ?_); go_simp; refine hK _ ?_; clear hK K
      refine NB.t_r 26 [27, 28, 29] rfl (by kernel_rfl) (by kernel_rfl) (by go_simp) _ (fun w' hw' => NB.run_op_load rfl rfl Try.underlying48 rfl q1 hw') (fun K hK => ?_); go_simp; refine hK _ ?_; clear hK K
      refine NB.t_p 27 rfl (by kernel_rfl) (fun K hK => ?_); go_simp; refine hK _ ?_; clear hK K
      refine NB.t_p 28 rfl (by kernel_rfl) (fun K hK => ?_); go_simp; refine hK _ ?_; clear hK K
      refine NB.t_p 29 rfl (by kernel_rfl) (fun K hK => ?_); go_simp; refine hK _ ?_; clear hK K
      refine NB.t_end (by kernel_rfl) ?_
      go_wp2_with fail
      go_ret
      exact same_no HNE.out B8
    subst hm
    refine NB.t_p 0 rfl (by kernel_rfl) (fun K hK => ?_); go_simp; refine hK _ ?_; clear hK K
    refine NB.t_r 1 [3, 4, 5, 12, 13, 14, 15, 16, 17, 18, 19, 20, 21, 22, 23, 24, 25, 26, 27, 28, 29] rfl (by kernel_rfl) (by kernel_rfl) (by go_simp) _ (fun w' hw' => NB.run_op_load rfl rfl Try.underlying31 rfl c6 hw') (fun K hK => ?_); go_simp; refine hK _ ?_; clear hK K
    refine NB.t_p 2 rfl (by kernel_rfl) (fun K hK => ?_); go_simp; refine hK _ ?_; clear hK K
    refine NB.t_p 3 rfl (by kernel_rfl) (fun K hK => ?_); go_simp; refine hK _ ?_; clear hK K
    refine NB.t_p 4 rfl (by kernel_rfl) (fun K hK => ?_); go_simp; refine hK _ ?_; clear hK K
    refine NB.t_r 5 [12, 13, 14, 15, 16, 17, 18, 19, 20, 21, 22, 23, 24, 25, 26, 27, 28, 29] rfl (by kernel_rfl) (by kernel_rfl) (by go_simp) _ (fun w' hw' => NB.run_op_load rfl rfl Try.underlying3 rfl p0 hw') (fun K hK => ?_); go_simp; refine hK _ ?_; clear hK K
    refine NB.t_p 6 rfl (by kernel_rfl) (fun K hK => ?_); go_simp; refine hK _ ?_; clear hK K
    refine NB.t_r 7 [9, 10, 11, 12, 13, 14, 15, 16, 17, 18, 19, 20, 21, 22, 23, 24, 25, 26, 27, 28, 29] rfl (by kernel_rfl) (by kernel_rfl) (by go_simp) _ (fun w' hw' => NB.run_op_load rfl rfl Try.underlying31 rfl d6 hw') (fun K hK => ?_); go_simp; refine hK _ ?_; clear hK K
    refine NB.t_p 8 rfl (by kernel_rfl) (fun K hK => ?_); go_simp; refine hK _ ?_; clear hK K
    refine NB.t_p 9 rfl (by kernel_rfl) (fun K hK => ?_); go_simp; refine hK _ ?_; clear hK K
    refine NB.t_p 10 rfl (by kernel_rfl) (fun K hK => ?_); go_simp; refine hK _ ?_; clear hK K
    refine NB.t_r 11 [12, 13, 14, 15, 16, 17, 18, 19, 20, 21, 22, 23, 24, 25, 26, 27, 28, 29] rfl (by kernel_rfl) (by kernel_rfl) (by go_simp) _ (fun w' hw' => NB.run_op_load rfl rfl Try.underlying3 rfl q0 hw') (fun K hK => ?_); go_simp; refine hK _ ?_; clear hK K
    refine NB.t_p 12 rfl (by kernel_rfl) (fun K hK => ?_); go_simp; refine hK _ ?_; clear hK K
    refine NB.t_p 13 rfl (by kernel_rfl) (fun K hK => ?_); go_simp; refine hK _ ?_; clear hK K
    refine NB.t_p 14 rfl (by kernel_rfl) (fun K hK => ?_); go_simp; refine hK _ ?_; clear hK K
    refine NB.t_r 15 [17, 18, 19, 20, 28, 29] rfl (by kernel_rfl) (by kernel_rfl) (by go_simp) _ (fun w' hw' => NB.run_op_load rfl rfl Try.underlying31 rfl c6 hw') (fun K hK => ?_); go_simp; refine hK _ ?_; clear hK K
    refine NB.t_p 16 rfl (by kernel_rfl) (fun K hK => ?_); go_simp; refine hK _ ?_; clear hK K
    refine NB.t_p 17 rfl (by kernel_rfl) (fun K hK => ?_); go_simp; refine hK _ ?_; clear hK K
    refine NB.t_p 18 rfl (by kernel_rfl) (fun K hK => ?_); go_simp; refine hK _ ?_; clear hK K
    refine NB.t_r 19 [20, 28, 29] rfl (by kernel_rfl) (by kernel_rfl) (by go_simp) _ (fun w' hw' => NB.run_op_load rfl rfl Try.underlying48 rfl p1 hw') (fun K hK => ?_); go_simp; refine hK _ ?_; clear hK K
    refine NB.t_p 20 rfl (by kernel_rfl) (fun K hK => ?_); go_simp; refine hK _ ?_; clear hK K
    refine NB.t_p 21 rfl (by kernel_rfl) (fun K hK => ?_); go_simp; refine hK _ ?_; clear hK K
    refine NB.t_r 22 [24, 25, 26, 27, 28, 29] rfl (by kernel_rfl) (by kernel_rfl) (by go_simp) _ (fun w' hw' => NB.run_op_load rfl rfl Try.underlying31 rfl d6 hw') (fun K hK => ?_); go_simp; refine hK _ ?_; clear hK K
    refine NB.t_p 23 rfl (by kernel_rfl) (fun K hK => ?_); go_simp; refine hK _ ?_; clear hK K
    refine NB.t_p 24 rfl (by kernel_rfl) (fun K hK => ?_); go_simp; refine hK _ ?_; clear hK K
    refine NB.t_p 25 rfl (by kernel_rfl) (fun K hK => ?_); go_simp; refine hK _ ?_; clear hK K
    refine NB.t_r 26 [27, 28, 29] rfl (by kernel_rfl) (by kernel_rfl) (by go_simp) _ (fun w' hw' => NB.run_op_load rfl rfl Try.underlying48 rfl q1 hw') (fun K hK => ?_); go_simp; refine hK _ ?_; clear hK K
    refine NB.t_p 27 rfl (by kernel_rfl) (fun K hK => ?_); go_simp; refine hK _ ?_; clear hK K
    refine NB.t_p 28 rfl (by kernel_rfl) (fun K hK => ?_); go_simp; refine hK _ ?_; clear hK K
    refine NB.t_p 29 rfl (by kernel_rfl) (fun K hK => ?_); go_simp; refine hK _ ?_; clear hK K
    refine NB.t_end (by kernel_rfl) ?_
    obtain ⟨wo, rfl⟩ : ∃ wo : World, wo = wr := ⟨_, rfl⟩
    go_wp2_with fail
    go_loopw [6] (fun y wi => ∃ k : Nat, k ≤ m1 ∧ y = .int .i64 (k : Int) ∧ l1.take k = l2.take k ∧ Below w8.heap.size w8 wi) (fun y _ => m1 - (intOf y).toNat)
    case atStart => exact ⟨0, by omega, rfl, rfl, Below.refl _ _⟩
    case round =>
      obtain ⟨k, hk, rfl, hkt, BI⟩ := hrel
      have HKT := Go.Lib.hid hkt
      have z1i := z1.below BI
      have p1i := (BI.cell (p := ⟨b1, o1 + i * 2 + 1, none⟩) (World.block_lt_of_cell? _ _ p1)).trans p1
      obtain ⟨_, _, _, _, _, _, c6i, _⟩ := NB.rw7 z1i
      clear hkt c6 d6
      by_cases hkl : k < m1
      case neg =>
        have hki : ¬ (k : Int) < (m1 : Int) := by omega
        obtain rfl : k = m1 := by omega
        have hle : l1 = l2 := by
          have := HKT.out
          rwa [List.take_of_length_le (by have := HM1.out; omega), List.take_of_length_le (by have := HM2.out; omega)] at this
        have hnx := HNX.out (by rw [hle])
        have HN2 := Go.Lib.hid hnx
        have Bo := NB.bel B8 BI B8.size
        have Bo1 := NB.bel B18 BI B18.size
        clear hle hnx
        go_wp2_with fail
        go_roundw
        case rel => exact ⟨i + 1, by omega, by go_num, HN2.out, Bo, Bo1⟩
        case measure => simp [intOf]; omega
      have hki : (k : Int) < (m1 : Int) := by omega
      obtain ⟨e1, f1, u1w, rfl⟩ := NB.RdU.at (y1.below BI) k hkl
      obtain ⟨e2, f2, u2w, rfl⟩ := NB.RdU.at (y2.below BI) k hkl
      have t1 : l1[k]? = some (l1.getD k 0) := by
        have := HM1.out
        rw [List.getD_eq_getElem?_getD, List.getElem?_eq_getElem (by omega)]; rfl
      have t2 : l2[k]? = some (l2.getD k 0) := by
        have := HM2.out
        rw [List.getD_eq_getElem?_getD, List.getElem?_eq_getElem (by omega)]; rfl
      have hnn : l1.getD k 0 = l2.getD k 0 → l1.take (k + 1) = l2.take (k + 1) := fun he => take_next HKT.out t1 (by rw [he]; exact t2)
      have hdd : l1.getD k 0 ≠ l2.getD k 0 → ¬ C1 = C2 := fun hne => HD.out (fun h => hne (by have : l1 = l2 := congrArg Rl.l h; rw [this]))
      have HNN := Go.Lib.hid hnn; have HDD := Go.Lib.hid hdd
      clear hnn hdd t1 t2
      generalize l1.getD k 0 = v1 at *
      generalize l2.getD k 0 = v2 at *
      have dd := dB wr
      have BD := BI.drew
      have lc := fun (b o : Nat) (v : Value) (hc : wr.cell? ⟨b, o, none⟩ = some v) => (dd.cell (p := ⟨b, o, none⟩) (World.block_lt_of_cell? wr _ hc)).trans hc
      have u1 := lc _ _ _ u1w
      have u2 := lc _ _ _ u2w
      have zz1 := z1i.below dd
      have zz2 := (z2.below BI).below dd
      have pp1 := lc _ _ _ p1i
      have qq1 := (BD.cell (p := ⟨b2, o2 + i * 2 + 1, none⟩) (World.block_lt_of_cell? _ _ q1)).trans q1
      go_wp2_with fail
      clear lc dd u1w u2w z1i p1i c6i BI
      refine NB.wp_region_t [] (by kernel_rfl) ?_
      generalize wr.drew = w9 at *
      obtain ⟨_, _, _, _, _, _, c6, _⟩ := NB.rw7 zz1
      obtain ⟨_, _, _, _, _, _, d6, _⟩ := NB.rw7 zz2
      by_cases hv : v1 = v2
      case neg =>
        have hb : ((v1 : Int) != (v2 : Int)) = true := by simp; omega
        have hne := HDD.out hv
        have HNE := Go.Lib.hid hne
        have Bo := NB.bel B8 BD B8.size
        clear hne hv HDD HNN HD HNX HNO HYES
        refine NB.t_p 0 rfl (by kernel_rfl) (fun K hK => ?_); go_simp; refine hK _ ?_; clear hK K
        refine NB.t_r 1 [3, 4, 5, 7, 8, 18] rfl (by kernel_rfl) (by kernel_rfl) (by go_simp) _ (fun w' hw' => NB.run_op_load rfl rfl Try.underlying31 rfl c6 hw') (fun K hK => ?_); go_simp; refine hK _ ?_; clear hK K
        refine NB.t_p 2 rfl (by kernel_rfl) (fun K hK => ?_); go_simp; refine hK _ ?_; clear hK K
        refine NB.t_p 3 rfl (by kernel_rfl) (fun K hK => ?_); go_simp; refine hK _ ?_; clear hK K
        refine NB.t_p 4 rfl (by kernel_rfl) (fun K hK => ?_); go_simp; refine hK _ ?_; clear hK K
        refine NB.t_r 5 [7, 8, 18] rfl (by kernel_rfl) (by kernel_rfl) (by go_simp) _ (fun w' hw' => NB.run_op_load rfl rfl Try.underlying48 rfl pp1 hw') (fun K hK => ?_); go_simp; refine hK _ ?_; clear hK K
        refine NB.t_p 6 rfl (by kernel_rfl) (fun K hK => ?_); go_simp; refine hK _ ?_; clear hK K
        refine NB.t_p 7 rfl (by kernel_rfl) (fun K hK => ?_); go_simp; refine hK _ ?_; clear hK K
        refine NB.t_r 8 [18] rfl (by kernel_rfl) (by kernel_rfl) (by go_simp) _ (fun w' hw' => NB.run_op_load rfl rfl Try.underlying24 rfl u1 hw') (fun K hK => ?_); go_simp; refine hK _ ?_; clear hK K
        refine NB.t_p 9 rfl (by kernel_rfl) (fun K hK => ?_); go_simp; refine hK _ ?_; clear hK K
        refine NB.t_r 10 [12, 13, 14, 16, 17, 18] rfl (by kernel_rfl) (by kernel_rfl) (by go_simp) _ (fun w' hw' => NB.run_op_load rfl rfl Try.underlying31 rfl d6 hw') (fun K hK => ?_); go_simp; refine hK _ ?_; clear hK K
        refine NB.t_p 11 rfl (by kernel_rfl) (fun K hK => ?_); go_simp; refine hK _ ?_; clear hK K
        refine NB.t_p 12 rfl (by kernel_rfl) (fun K hK => ?_); go_simp; refine hK _ ?_; clear hK K
        refine NB.t_p 13 rfl (by kernel_rfl) (fun K hK => ?_); go_simp; refine hK _ ?_; clear hK K
        refine NB.t_r 14 [16, 17, 18] rfl (by kernel_rfl) (by kernel_rfl) (by go_simp) _ (fun w' hw' => NB.run_op_load rfl rfl Try.underlying48 rfl qq1 hw') (fun K hK => ?_); go_simp; refine hK _ ?_; clear hK K
        refine NB.t_p 15 rfl (by kernel_rfl) (fun K hK => ?_); go_simp; refine hK _ ?_; clear hK K
        refine NB.t_p 16 rfl (by kernel_rfl) (fun K hK => ?_); go_simp; refine hK _ ?_; clear hK K
        refine NB.t_r 17 [18] rfl (by kernel_rfl) (by kernel_rfl) (by go_simp) _ (fun w' hw' => NB.run_op_load rfl rfl Try.underlying24 rfl u2 hw') (fun K hK => ?_); go_simp; refine hK _ ?_; clear hK K
        refine NB.t_p 18 rfl (by kernel_rfl) (fun K hK => ?_); go_simp; refine hK _ ?_; clear hK K
        refine NB.t_end (by kernel_rfl) ?_
        go_wp2_with fail
        go_ret
        exact same_no HNE.out Bo
      subst hv
      have hkt2 := HNN.out rfl
      have HK2 := Go.Lib.hid hkt2
      clear hkt2 HNN HDD
      refine NB.t_p 0 rfl (by kernel_rfl) (fun K hK => ?_); go_simp; refine hK _ ?_; clear hK K
      refine NB.t_r 1 [3, 4, 5, 7, 8, 18] rfl (by kernel_rfl) (by kernel_rfl) (by go_simp) _ (fun w' hw' => NB.run_op_load rfl rfl Try.underlying31 rfl c6 hw') (fun K hK => ?_); go_simp; refine hK _ ?_; clear hK K
      refine NB.t_p 2 rfl (by kernel_rfl) (fun K hK => ?_); go_simp; refine hK _ ?_; clear hK K
      refine NB.t_p 3 rfl (by kernel_rfl) (fun K hK => ?_); go_simp; refine hK _ ?_; clear hK K
      refine NB.t_p 4 rfl (by kernel_rfl) (fun K hK => ?_); go_simp; refine hK _ ?_; clear hK K
      refine NB.t_r 5 [7, 8, 18] rfl (by kernel_rfl) (by kernel_rfl) (by go_simp) _ (fun w' hw' => NB.run_op_load rfl rfl Try.underlying48 rfl pp1 hw') (fun K hK => ?_); go_simp; refine hK _ ?_; clear hK K
      refine NB.t_p 6 rfl (by kernel_rfl) (fun K hK => ?_); go_simp; refine hK _ ?_; clear hK K
      refine NB.t_p 7 rfl (by kernel_rfl) (fun K hK => ?_); go_simp; refine hK _ ?_; clear hK K
      refine NB.t_r 8 [18] rfl (by kernel_rfl) (by kernel_rfl) (by go_simp) _ (fun w' hw' => NB.run_op_load rfl rfl Try.underlying24 rfl u1 hw') (fun K hK => ?_); go_simp; refine hK _ ?_; clear hK K
      refine NB.t_p 9 rfl (by kernel_rfl) (fun K hK => ?_); go_simp; refine hK _ ?_; clear hK K
      refine NB.t_r 10 [12, 13, 14, 16, 17, 18] rfl (by kernel_rfl) (by kernel_rfl) (by go_simp) _ (fun w' hw' => NB.run_op_load rfl rfl Try.underlying31 rfl d6 hw') (fun K hK => ?_); go_simp; refine hK _ ?_; clear hK K
      refine NB.t_p 11 rfl (by kernel_rfl) (fun K hK => ?_); go_simp; refine hK _ ?_; clear hK K
      refine NB.t_p 12 rfl (by kernel_rfl) (fun K hK => ?_); go_simp; refine hK _ ?_; clear hK K
      refine NB.t_p 13 rfl (by kernel_rfl) (fun K hK => ?_); go_simp; refine hK _ ?_; clear hK K
      refine NB.t_r 14 [16, 17, 18] rfl (by kernel_rfl) (by kernel_rfl) (by go_simp) _ (fun w' hw' => NB.run_op_load rfl rfl Try.underlying48 rfl qq1 hw') (fun K hK => ?_); go_simp; refine hK _ ?_; clear hK K
      refine NB.t_p 15 rfl (by kernel_rfl) (fun K hK => ?_); go_simp; refine hK _ ?_; clear hK K
      refine NB.t_p 16 rfl (by kernel_rfl) (fun K hK => ?_); go_simp; refine hK _ ?_; clear hK K
      refine NB.t_r 17 [18] rfl (by kernel_rfl) (by kernel_rfl) (by go_simp) _ (fun w' hw' => NB.run_op_load rfl rfl Try.underlying24 rfl u2 hw') (fun K hK => ?_); go_simp; refine hK _ ?_; clear hK K
      refine NB.t_p 18 rfl (by kernel_rfl) (fun K hK => ?_); go_simp; refine hK _ ?_; clear hK K
      refine NB.t_end (by kernel_rfl) ?_
      go_wp2_with fail
      go_roundw
      case rel => exact ⟨k + 1, by omega, by go_num, HK2.out, BD⟩
      case measure => simp [intOf]; omega
end Go.Proofs.Ytnkmlopgfgdajaa
