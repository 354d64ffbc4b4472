/- The law MsgOne. -/
import Derived.Test.YtadgokegjmigoaaDoorMgw
namespace Go.Proofs.YtadgokegjmigoaaDoor
open Go.RowKit Go.Shelf
open Go.NB (Rd Kp Stp Off Dis oneB dB Rw RdU Lp Rr encU encB digs)

theorem mget_err {C : List UInt8} {m : Mm} {e : Int} (h : mgetM C = (m, e)) (he : e ≠ 0) : m = mm0 := by
  unfold mgetM at h
  split at h
  · exact (Prod.mk.inj h).1.symm
  split at h
  · exact (Prod.mk.inj h).1.symm
  split at h
  · exact (Prod.mk.inj h).1.symm
  · exact absurd (Prod.mk.inj h).2.symm he


set_option maxRecDepth 100000 in
set_option maxHeartbeats 4000000 in
theorem mone_no (w : World) (hT : Tb w) (a : Option Addr) (n c : Nat) (b : List UInt8) (k : UInt8) (h : NB.RdB w a n c b) (hn : n ≤ 600) :
    Calls Tryd.prog 5 #[.slice a n c, .bool false, .int .u8 (k.toNat : Int)] w fun e w' => e = .returned (.bool true) ∧ Below w.heap.size w w' := by
  have hsz := NB.RdB.size h
  have hnz : (n : Int) ≤ 600 := by omega
  have HT := Go.Lib.hid hT
  clear hT
  subst hsz
  go_enter Tryd.func5, Tryd.ntmps5
  go_wp2_with fail
  refine (mawake_any _ HT.out).mono ?_
  rintro e w1 ⟨rfl, hb1⟩
  have R1 := h.below hb1
  go_wp2_with fail
  refine (mget_any w1 (HT.out.grow hb1) a b.length c b R1 (by omega)).mono ?_
  rintro e w3 ⟨av, cv, ab, cb, rfl, hM, hb3, lv, lb⟩
  have B3 := NB.bel hb1 hb3 hb1.size
  have R3 := Rd.below R1 hb3
  obtain ⟨m, ee, hme⟩ : ∃ m ee, mgetM b = (m, ee) := ⟨_, _, rfl⟩
  have HME := Go.Lib.hid hme
  rw [hme] at hM ⊢
  simp only at hM ⊢
  clear hme hb3 R1 hb1 lv lb
  by_cases he : ee = 0
  case neg =>
    obtain rfl := mget_err HME.out he
    have hne : (ee != 0) = true := by simpa using he
    have B4 := NB.bel B3 (oneB w3 (.cells #[(.int .i64 0), (.int .u64 0), (.int .u64 0), (.int .i64 0), (.int .i64 0), (.int .u64 0), (.int .u64 0), (.int .u64 0), (.int .i64 0), (.slice av 0 cv), (.slice ab 0 cb)] 32)) B3.size
    clear HME hM R3 B3
    unfold msgV mm0
    simp only [List.toArray, List.length_nil]
    go_wp2_with fail
    go_ret
    exact ⟨rfl, B4⟩
  subst he
  obtain ⟨hck, hwf, hput⟩ := mget_inv HME.out
  have hpm : mputM m = (b, 0) := by rw [mput_ok hck hwf, hput]
  have X4 : Below w3.heap.size w3 (w3.alloc (.cells (msgV m av cv ab cb).toArray 32)) := oneB w3 _
  have M4 := hM.below X4
  have B4 := NB.bel B3 X4 B3.size
  have R4 := Rd.below R3 X4
  have RM : Rw (w3.alloc (.cells (msgV m av cv ab cb).toArray 32)) w3.heap.size (msgV m av cv ab cb) 32 := NB.rw_new w3 _ _ rfl
  have cp := mput_any _ (HT.out.grow B4) m av cv ab cb M4 hwf
  rw [hpm] at cp
  have CP := Go.Lib.hid cp
  clear HME hck hwf hput hpm cp M4 hM R3 B3 X4
  obtain ⟨kd, bal, slt, shd, sg, cl, sq, ps, cd, vc, bd⟩ := m
  unfold msgV at CP RM B4 R4 ⊢
  simp only [List.toArray] at CP RM B4 R4 ⊢
  have m0 := RM.cell 0 _ rfl
  have m1 := RM.cell 1 _ rfl
  have m2 := RM.cell 2 _ rfl
  have m3 := RM.cell 3 _ rfl
  have m4 := RM.cell 4 _ rfl
  have m5 := RM.cell 5 _ rfl
  have m6 := RM.cell 6 _ rfl
  have m7 := RM.cell 7 _ rfl
  have m8 := RM.cell 8 _ rfl
  have m9 := RM.cell 9 _ rfl
  have m10 := RM.cell 10 _ rfl
  go_wp2_with fail
  refine CP.out.mono ?_
  rintro e w5 ⟨a5, c5, rfl, ho5, hb5⟩
  unfold NB.OwnB at ho5
  simp only at ho5 ⊢
  obtain ⟨a5', c5', e5, R5, _, _⟩ := NB.rd_of_own ho5
  cases e5
  have R5 : NB.RdB w5 a5 (b).length c5 (b) := R5
  have B5 := NB.bel B4 hb5 B4.size
  have R50 := Rd.below R4 hb5
  clear ho5 hb5 R4 B4 CP RM
  go_wp2_with (first
    | (refine NB.wpList_conv_str rfl 22 9 (.tmp 56) rfl Tryd.underlying22 Tryd.underlying5 Tryd.underlying9 a5 (b).length c5 (b) rfl R5 ?_)
    | (refine NB.wpList_conv_str rfl 22 9 (.tmp 58) rfl Tryd.underlying22 Tryd.underlying5 Tryd.underlying9 a b.length c (b) rfl R50 ?_))
  go_ret
  exact ⟨by simp, B5⟩

set_option maxRecDepth 100000 in
set_option maxHeartbeats 4000000 in
theorem mone_wrap (w : World) (hT : Tb w) (a : Option Addr) (n c : Nat) (b : List UInt8) (k : UInt8) (h : NB.RdB w a n c b) (hn : n ≤ 600) :
    Calls Tryd.prog 5 #[.slice a n c, .bool true, .int .u8 (k.toNat : Int)] w fun e w' => e = .returned (.bool true) ∧ Below w.heap.size w w' := by
  have hsz := NB.RdB.size h
  have hnz : (n : Int) ≤ 600 := by omega
  have HT := Go.Lib.hid hT
  clear hT
  have cp := fun w h => fput_any w k a n c b h
  rw [fput_is (f := (k, b)) (by simp only; omega)] at cp
  have hlen := fbL_len (k, b)
  have hE : (encU b.length).length ≤ 9 := NB.encU_len (by omega)
  simp only at hlen
  have hZ2 : (fbL (k, b)).length ≤ 700 := by omega
  have HCP := Go.Lib.hid cp
  clear hlen hE cp hsz
  generalize fbL (k, b) = C at *
  have hcz : (C.length : Int) ≤ 700 := by omega
  go_enter Tryd.func5, Tryd.ntmps5
  go_wp2_with fail
  refine (mawake_any _ HT.out).mono ?_
  rintro e w1 ⟨rfl, hb1⟩
  go_wp2_with fail
  refine (HCP.out _ (h.below hb1)).mono ?_
  rintro e w2 ⟨a2, c2, rfl, ho2, hb2⟩
  unfold NB.OwnB at ho2
  simp only at ho2 ⊢
  have B2 := NB.bel hb1 hb2 hb1.size
  obtain ⟨a2', c2', e2, R2, _, _⟩ := NB.rd_of_own ho2
  cases e2
  have R2 : NB.RdB w2 a2 C.length c2 C := R2
  clear ho2 hb1 hb2 h HCP
  go_wp2_with fail
  refine (mget_any w2 (HT.out.grow B2) a2 C.length c2 C R2 (by omega)).mono ?_
  rintro e w3 ⟨av, cv, ab, cb, rfl, hM, hb3, lv, lb⟩
  have B3 := NB.bel B2 hb3 B2.size
  have R3 := Rd.below R2 hb3
  obtain ⟨m, ee, hme⟩ : ∃ m ee, mgetM C = (m, ee) := ⟨_, _, rfl⟩
  have HME := Go.Lib.hid hme
  rw [hme] at hM ⊢
  simp only at hM ⊢
  clear hme hb3 R2 B2 lv lb
  by_cases he : ee = 0
  case neg =>
    obtain rfl := mget_err HME.out he
    have hne : (ee != 0) = true := by simpa using he
    have B4 := NB.bel B3 (oneB w3 (.cells #[(.int .i64 0), (.int .u64 0), (.int .u64 0), (.int .i64 0), (.int .i64 0), (.int .u64 0), (.int .u64 0), (.int .u64 0), (.int .i64 0), (.slice av 0 cv), (.slice ab 0 cb)] 32)) B3.size
    clear HME hM R3 B3
    unfold msgV mm0
    simp only [List.toArray, List.length_nil]
    go_wp2_with fail
    go_ret
    exact ⟨rfl, B4⟩
  subst he
  obtain ⟨hck, hwf, hput⟩ := mget_inv HME.out
  have hpm : mputM m = (C, 0) := by rw [mput_ok hck hwf, hput]
  have X4 : Below w3.heap.size w3 (w3.alloc (.cells (msgV m av cv ab cb).toArray 32)) := oneB w3 _
  have M4 := hM.below X4
  have B4 := NB.bel B3 X4 B3.size
  have R4 := Rd.below R3 X4
  have RM : Rw (w3.alloc (.cells (msgV m av cv ab cb).toArray 32)) w3.heap.size (msgV m av cv ab cb) 32 := NB.rw_new w3 _ _ rfl
  have cp := mput_any _ (HT.out.grow B4) m av cv ab cb M4 hwf
  rw [hpm] at cp
  have CP := Go.Lib.hid cp
  clear HME hck hwf hput hpm cp M4 hM R3 B3 X4
  obtain ⟨kd, bal, slt, shd, sg, cl, sq, ps, cd, vc, bd⟩ := m
  unfold msgV at CP RM B4 R4 ⊢
  simp only [List.toArray] at CP RM B4 R4 ⊢
  have m0 := RM.cell 0 _ rfl
  have m1 := RM.cell 1 _ rfl
  have m2 := RM.cell 2 _ rfl
  have m3 := RM.cell 3 _ rfl
  have m4 := RM.cell 4 _ rfl
  have m5 := RM.cell 5 _ rfl
  have m6 := RM.cell 6 _ rfl
  have m7 := RM.cell 7 _ rfl
  have m8 := RM.cell 8 _ rfl
  have m9 := RM.cell 9 _ rfl
  have m10 := RM.cell 10 _ rfl
  go_wp2_with fail
  refine CP.out.mono ?_
  rintro e w5 ⟨a5, c5, rfl, ho5, hb5⟩
  unfold NB.OwnB at ho5
  simp only at ho5 ⊢
  obtain ⟨a5', c5', e5, R5, _, _⟩ := NB.rd_of_own ho5
  cases e5
  have R5 : NB.RdB w5 a5 (C).length c5 (C) := R5
  have B5 := NB.bel B4 hb5 B4.size
  have R50 := Rd.below R4 hb5
  clear ho5 hb5 R4 B4 CP RM
  go_wp2_with (first
    | (refine NB.wpList_conv_str rfl 22 9 (.tmp 56) rfl Tryd.underlying22 Tryd.underlying5 Tryd.underlying9 a5 (C).length c5 (C) rfl R5 ?_)
    | (refine NB.wpList_conv_str rfl 22 9 (.tmp 58) rfl Tryd.underlying22 Tryd.underlying5 Tryd.underlying9 a2 C.length c2 (C) rfl R50 ?_))
  go_ret
  exact ⟨by simp, B5⟩

theorem law_mone (w : World) (hT : Tb w) (a : Option Addr) (n c : Nat) (b : List UInt8) (own : Bool) (k : Int) (h : NB.RdB w a n c b) (hk : (Lit.int .u8 k).wf = true) :
    Calls Tryd.prog 5 #[.slice a n c, .bool own, .int .u8 k] w fun e w' => e = .returned (.bool true) ∧ Below w.heap.size w w' := by
  obtain ⟨k, rfl⟩ : ∃ K : UInt8, k = (K.toNat : Int) := ⟨UInt8.ofNat k.toNat, (NB.u8_of_wf hk).symm⟩
  by_cases hn : n ≤ 600
  · cases own
    · exact mone_no w hT a n c b k h hn
    · exact mone_wrap w hT a n c b k h hn
  · have hnz : ¬ (n : Int) ≤ 600 := by omega
    have HT := Go.Lib.hid hT
    clear hT
    go_enter Tryd.func5, Tryd.ntmps5
    go_wp2_with fail
    refine (mawake_any _ HT.out).mono ?_
    rintro e w1 ⟨rfl, hb1⟩
    go_wp2_with fail
    go_ret
    exact ⟨rfl, hb1⟩
end Go.Proofs.YtadgokegjmigoaaDoor
