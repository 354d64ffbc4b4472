/- The law MsgGets. -/
import Derived.Test.YtadgokegjmigoaaDoorMgw

import Derived.Test.YtadgokegjmigoaaDoorMgz
import Derived.Test.YtadgokegjmigoaaDoorRgy
import Derived.Test.YtadgokegjmigoaaDoorBst
namespace Go.Proofs.YtadgokegjmigoaaDoor
open Go.RowKit Go.Shelf
open Go.NB (Rd Kp Stp Off Dis oneB dB Rw RdU Lp Rr encU encB digs)

set_option maxRecDepth 100000 in
set_option maxHeartbeats 8000000 in
theorem mgets_no (w : World) (hT : Tb w) (a : Option Addr) (n c : Nat) (b : List UInt8) (k : UInt8) (h : NB.RdB w a n c b) (hn : n ≤ 600) :
    Calls Tryd.prog 3 #[.slice a n c, .bool false, .int .u8 (k.toNat : Int)] w fun e w' => e = .returned (.bool true) ∧ Below w.heap.size w w' := by
  have hsz := NB.RdB.size h
  have hnz : (n : Int) ≤ 600 := by omega
  have HT := Go.Lib.hid hT
  clear hT
  subst hsz
  go_enter Tryd.func3, Tryd.ntmps3
  go_wp2_with fail
  refine (mawake_any _ HT.out).mono ?_
  rintro e w1 ⟨rfl, hb1⟩
  have R1 := h.below hb1
  have hlb : b.length ≤ maxLen := by unfold maxLen; omega
  have hX6 : b.length ≤ 100000000 := by omega
  have B1 := hb1
  go_wp2_with (first | (refine NB.wpList_conv_str rfl 22 9 (.tmp 19) rfl Tryd.underlying22 Tryd.underlying5 Tryd.underlying9 a b.length c b rfl R1 ?_) | (refine NB.wpList_bytes_str rfl 9 22 (.tmp 30) rfl Tryd.underlying9 Tryd.underlying22 Tryd.underlying5 b rfl hlb ?_; intro w2 c2 R2 hb2))
  have B2 := NB.bel B1 hb2 B1.size
  clear hb2 B1 R1 hb1
  refine (mget_any w2 (HT.out.grow B2) _ b.length c2 b R2 hX6).mono ?_
  obtain ⟨⟨⟨kd, bl, sl, sh, sg, cl, sq, ps, cd, xs, bs⟩, ee⟩, hme⟩ : ∃ Y, mgetM b = Y := ⟨_, rfl⟩
  have rg := fun W => rmget_any W b hX6
  rw [hme] at rg ⊢
  unfold RGE mVl at rg
  simp only [List.toArray] at rg
  have RG := Go.Lib.hid rg
  clear rg hme R2
  rintro e w3 ⟨av, cv, ab, cb, rfl, hM, hb3, _, _⟩
  have B3 := NB.bel B2 hb3 B2.size
  have y9 : Rw (w3.alloc (.cells #[Value.int .i64 kd, .int .u64 (bl : Int), .int .u64 (sl : Int), .int .i64 sh, .int .i64 sg, .int .u64 (cl : Int), .int .u64 (sq : Int), .int .u64 (ps : Int), .int .i64 cd, .slice av xs.length cv, .slice ab bs.length cb] 32)) w3.heap.size [Value.int .i64 kd, .int .u64 (bl : Int), .int .u64 (sl : Int), .int .i64 sh, .int .i64 sg, .int .u64 (cl : Int), .int .u64 (sq : Int), .int .u64 (ps : Int), .int .i64 cd, .slice av xs.length cv, .slice ab bs.length cb] 32 := NB.rw_new w3 [Value.int .i64 kd, .int .u64 (bl : Int), .int .u64 (sl : Int), .int .i64 sh, .int .i64 sg, .int .u64 (cl : Int), .int .u64 (sq : Int), .int .u64 (ps : Int), .int .i64 cd, .slice av xs.length cv, .slice ab bs.length cb] 32 rfl
  have o9 := oneB w3 (.cells #[Value.int .i64 kd, .int .u64 (bl : Int), .int .u64 (sl : Int), .int .i64 sh, .int .i64 sg, .int .u64 (cl : Int), .int .u64 (sq : Int), .int .u64 (ps : Int), .int .i64 cd, .slice av xs.length cv, .slice ab bs.length cb] 32)
  have B4 := NB.bel B3 o9 B3.size
  have M4 := hM.below o9
  clear hM hb3 B2 B3 o9
  unfold msgV
  simp only [List.toArray]
  go_wp2_with fail
  refine (RG.out _).mono ?_
  rintro e w4 ⟨av2, cv2, rfl, hR4, hb4⟩
  have B5 := NB.bel B4 hb4 B4.size
  have y10 := y9.below hb4
  have M5 := M4.below hb4
  have y11 : Rw (w4.alloc (.cells #[Value.int .i64 kd, .int .u64 (bl : Int), .int .u64 (sl : Int), .int .i64 sh, .int .i64 sg, .int .u64 (cl : Int), .int .u64 (sq : Int), .int .u64 (ps : Int), .int .i64 cd, .slice av2 xs.length cv2, .string (ByteArray.mk bs.toArray)] 36)) w4.heap.size [Value.int .i64 kd, .int .u64 (bl : Int), .int .u64 (sl : Int), .int .i64 sh, .int .i64 sg, .int .u64 (cl : Int), .int .u64 (sq : Int), .int .u64 (ps : Int), .int .i64 cd, .slice av2 xs.length cv2, .string (ByteArray.mk bs.toArray)] 36 := NB.rw_new w4 [Value.int .i64 kd, .int .u64 (bl : Int), .int .u64 (sl : Int), .int .i64 sh, .int .i64 sg, .int .u64 (cl : Int), .int .u64 (sq : Int), .int .u64 (ps : Int), .int .i64 cd, .slice av2 xs.length cv2, .string (ByteArray.mk bs.toArray)] 36 rfl
  have o11 := oneB w4 (.cells #[Value.int .i64 kd, .int .u64 (bl : Int), .int .u64 (sl : Int), .int .i64 sh, .int .i64 sg, .int .u64 (cl : Int), .int .u64 (sq : Int), .int .u64 (ps : Int), .int .i64 cd, .slice av2 xs.length cv2, .string (ByteArray.mk bs.toArray)] 36)
  have B6 := NB.bel B5 o11 B5.size
  have y12 := y10.below o11
  have M6 := M5.below o11
  have R6 : RdU (w4.alloc (.cells #[Value.int .i64 kd, .int .u64 (bl : Int), .int .u64 (sl : Int), .int .i64 sh, .int .i64 sg, .int .u64 (cl : Int), .int .u64 (sq : Int), .int .u64 (ps : Int), .int .i64 cd, .slice av2 xs.length cv2, .string (ByteArray.mk bs.toArray)] 36)) av2 xs.length cv2 xs := ⟨Rd.below hR4.1 o11, hR4.2⟩
  clear y9 y10 M4 M5 hR4 hb4 B4 B5 o11
  go_wp2_with fail
  refine NB.wp_region_t [] (by kernel_rfl) ?_
  have z1 := y12.below (dB _)
  have z2 := y11.below (dB _)
  have M7 := M6.below (dB _)
  have R7 : RdU _ av2 xs.length cv2 xs := ⟨Rd.below R6.1 (dB _), R6.2⟩
  have B7 := B6.drew
  clear y11 y12 M6 R6 B6
  generalize (w4.alloc (.cells #[Value.int .i64 kd, .int .u64 (bl : Int), .int .u64 (sl : Int), .int .i64 sh, .int .i64 sg, .int .u64 (cl : Int), .int .u64 (sq : Int), .int .u64 (ps : Int), .int .i64 cd, .slice av2 xs.length cv2, .string (ByteArray.mk bs.toArray)] 36)).drew = w5 at *
  refine NB.t_p 0 rfl (by kernel_rfl) (fun K hK => ?_); go_simp; refine hK _ ?_; clear hK K
  refine NB.t_p 1 rfl (by kernel_rfl) (fun K hK => ?_); go_simp; refine hK _ ?_; clear hK K
  refine NB.t_p 2 rfl (by kernel_rfl) (fun K hK => ?_); go_simp; refine hK _ ?_; clear hK K
  refine NB.t_p 3 rfl (by kernel_rfl) (fun K hK => ?_); go_simp; refine hK _ ?_; clear hK K
  refine NB.t_r 4 [5, 7, 8, 9] rfl (by kernel_rfl) (by kernel_rfl) (by go_simp) _ (fun w' hw' => NB.run_op_load_agg (off := 0) (m := 11) rfl rfl Tryd.underlying32 rfl _ _ _ z1 (by kernel_rfl) (Nat.le_refl _) _ rfl hw') (fun K hK => ?_); go_simp; refine hK _ ?_; clear hK K
  refine NB.t_r 6 [7, 8, 9] rfl (by kernel_rfl) (by kernel_rfl) (by go_simp) _ (fun w' hw' => NB.run_op_load_agg (off := 0) (m := 11) rfl rfl Tryd.underlying36 rfl _ _ _ z2 (by kernel_rfl) (Nat.le_refl _) _ rfl hw') (fun K hK => ?_); go_simp; refine hK _ ?_; clear hK K
  refine NB.t_e 5 rfl (by kernel_rfl) (by kernel_rfl) (fun K hK => ?_); unfold NB.tmoves; go_simp; refine (msgof_any w5 _ _ _ _ _ _ _ _ _ _ _ _ _ _ _ _ M7.body).mono ?_; rintro e w6 ⟨rfl, hb6⟩; refine ⟨_, rfl, hb6, hK _ _ ?_⟩; clear hK K
  refine NB.t_e 7 rfl (by kernel_rfl) (by kernel_rfl) (fun K hK => ?_); unfold NB.tmoves; go_simp; have B8 := NB.bel B7 hb6 B7.size; refine (same_any w6 _ _ _ _ _ _ _ _ _ _ _ _ _ _ _ _ _ _ _ _ _ _ _ _ _ _ _ _ (M7.below hb6).vec ⟨Rd.below R7.1 hb6, R7.2⟩).mono ?_; rintro e w8 ⟨V, rfl, hV, hb8⟩; refine ⟨_, rfl, hb8, hK _ _ ?_⟩; clear hK K
  have hVt : V = true := hV.2 rfl
  subst hVt
  clear hV
  refine NB.t_p 8 rfl (by kernel_rfl) (fun K hK => ?_); go_simp; refine hK _ ?_; clear hK K
  refine NB.t_p 9 rfl (by kernel_rfl) (fun K hK => ?_); go_simp; refine hK _ ?_; clear hK K
  refine NB.t_end (by kernel_rfl) ?_
  have B9 := NB.bel B8 hb8 B8.size
  go_wp2_with fail
  go_ret
  exact ⟨rfl, B9⟩

set_option maxRecDepth 100000 in
set_option maxHeartbeats 8000000 in
theorem mgets_yes (w : World) (hT : Tb w) (a : Option Addr) (n c : Nat) (b : List UInt8) (k : UInt8) (h : NB.RdB w a n c b) (hn : n ≤ 600) :
    Calls Tryd.prog 3 #[.slice a n c, .bool true, .int .u8 (k.toNat : Int)] w fun e w' => e = .returned (.bool true) ∧ Below w.heap.size w w' := by
  have hsz := NB.RdB.size h
  have hnz : (n : Int) ≤ 600 := by omega
  have HT := Go.Lib.hid hT
  clear hT
  subst hsz
  go_enter Tryd.func3, Tryd.ntmps3
  go_wp2_with fail
  refine (mawake_any _ HT.out).mono ?_
  rintro e w1 ⟨rfl, hb1⟩
  have R1 := h.below hb1
  have hlb : b.length ≤ maxLen := by unfold maxLen; omega
  have rp := fun W => rfput_any W k b (by omega)
  obtain ⟨X, hX⟩ : ∃ X, fputM (k, b) = (X, 0) := ⟨_, fput_is (by simp only; omega)⟩
  have hXl : X.length ≤ 700 := by
    have h1 := fput_is (f := (k, b)) (by simp only; omega)
    rw [hX] at h1
    have h2 := (Prod.mk.inj h1).1
    have h3 : (encU b.length).length ≤ 9 := NB.encU_len (by omega)
    rw [h2, fbL_len]
    simp only
    omega
  rw [hX] at rp
  unfold StrE at rp
  simp only at rp
  have RP := Go.Lib.hid rp
  have hlX : X.length ≤ maxLen := by unfold maxLen; omega
  have hX6 : X.length ≤ 100000000 := by omega
  clear rp hX
  go_wp2_with (first | fail | (refine NB.wpList_conv_str rfl 22 9 (.tmp 19) rfl Tryd.underlying22 Tryd.underlying5 Tryd.underlying9 a b.length c b rfl R1 ?_))
  refine (RP.out _).mono ?_
  rintro e w15 ⟨rfl, hb15⟩
  have B1 := NB.bel hb1 hb15 hb1.size
  clear hb15 RP
  go_wp2_with (refine NB.wpList_bytes_str rfl 9 22 (.tmp 30) rfl Tryd.underlying9 Tryd.underlying22 Tryd.underlying5 X rfl hlX ?_; intro w2 c2 R2 hb2)
  have B2 := NB.bel B1 hb2 B1.size
  clear hb2 B1 R1 hb1
  refine (mget_any w2 (HT.out.grow B2) _ X.length c2 X R2 hX6).mono ?_
  obtain ⟨⟨⟨kd, bl, sl, sh, sg, cl, sq, ps, cd, xs, bs⟩, ee⟩, hme⟩ : ∃ Y, mgetM X = Y := ⟨_, rfl⟩
  have rg := fun W => rmget_any W X hX6
  rw [hme] at rg ⊢
  unfold RGE mVl at rg
  simp only [List.toArray] at rg
  have RG := Go.Lib.hid rg
  clear rg hme R2
  rintro e w3 ⟨av, cv, ab, cb, rfl, hM, hb3, _, _⟩
  have B3 := NB.bel B2 hb3 B2.size
  have y9 : Rw (w3.alloc (.cells #[Value.int .i64 kd, .int .u64 (bl : Int), .int .u64 (sl : Int), .int .i64 sh, .int .i64 sg, .int .u64 (cl : Int), .int .u64 (sq : Int), .int .u64 (ps : Int), .int .i64 cd, .slice av xs.length cv, .slice ab bs.length cb] 32)) w3.heap.size [Value.int .i64 kd, .int .u64 (bl : Int), .int .u64 (sl : Int), .int .i64 sh, .int .i64 sg, .int .u64 (cl : Int), .int .u64 (sq : Int), .int .u64 (ps : Int), .int .i64 cd, .slice av xs.length cv, .slice ab bs.length cb] 32 := NB.rw_new w3 [Value.int .i64 kd, .int .u64 (bl : Int), .int .u64 (sl : Int), .int .i64 sh, .int .i64 sg, .int .u64 (cl : Int), .int .u64 (sq : Int), .int .u64 (ps : Int), .int .i64 cd, .slice av xs.length cv, .slice ab bs.length cb] 32 rfl
  have o9 := oneB w3 (.cells #[Value.int .i64 kd, .int .u64 (bl : Int), .int .u64 (sl : Int), .int .i64 sh, .int .i64 sg, .int .u64 (cl : Int), .int .u64 (sq : Int), .int .u64 (ps : Int), .int .i64 cd, .slice av xs.length cv, .slice ab bs.length cb] 32)
  have B4 := NB.bel B3 o9 B3.size
  have M4 := hM.below o9
  clear hM hb3 B2 B3 o9
  unfold msgV
  simp only [List.toArray]
  go_wp2_with fail
  refine (RG.out _).mono ?_
  rintro e w4 ⟨av2, cv2, rfl, hR4, hb4⟩
  have B5 := NB.bel B4 hb4 B4.size
  have y10 := y9.below hb4
  have M5 := M4.below hb4
  have y11 : Rw (w4.alloc (.cells #[Value.int .i64 kd, .int .u64 (bl : Int), .int .u64 (sl : Int), .int .i64 sh, .int .i64 sg, .int .u64 (cl : Int), .int .u64 (sq : Int), .int .u64 (ps : Int), .int .i64 cd, .slice av2 xs.length cv2, .string (ByteArray.mk bs.toArray)] 36)) w4.heap.size [Value.int .i64 kd, .int .u64 (bl : Int), .int .u64 (sl : Int), .int .i64 sh, .int .i64 sg, .int .u64 (cl : Int), .int .u64 (sq : Int), .int .u64 (ps : Int), .int .i64 cd, .slice av2 xs.length cv2, .string (ByteArray.mk bs.toArray)] 36 := NB.rw_new w4 [Value.int .i64 kd, .int .u64 (bl : Int), .int .u64 (sl : Int), .int .i64 sh, .int .i64 sg, .int .u64 (cl : Int), .int .u64 (sq : Int), .int .u64 (ps : Int), .int .i64 cd, .slice av2 xs.length cv2, .string (ByteArray.mk bs.toArray)] 36 rfl
  have o11 := oneB w4 (.cells #[Value.int .i64 kd, .int .u64 (bl : Int), .int .u64 (sl : Int), .int .i64 sh, .int .i64 sg, .int .u64 (cl : Int), .int .u64 (sq : Int), .int .u64 (ps : Int), .int .i64 cd, .slice av2 xs.length cv2, .string (ByteArray.mk bs.toArray)] 36)
  have B6 := NB.bel B5 o11 B5.size
  have y12 := y10.below o11
  have M6 := M5.below o11
  have R6 : RdU (w4.alloc (.cells #[Value.int .i64 kd, .int .u64 (bl : Int), .int .u64 (sl : Int), .int .i64 sh, .int .i64 sg, .int .u64 (cl : Int), .int .u64 (sq : Int), .int .u64 (ps : Int), .int .i64 cd, .slice av2 xs.length cv2, .string (ByteArray.mk bs.toArray)] 36)) av2 xs.length cv2 xs := ⟨Rd.below hR4.1 o11, hR4.2⟩
  clear y9 y10 M4 M5 hR4 hb4 B4 B5 o11
  go_wp2_with fail
  refine NB.wp_region_t [] (by kernel_rfl) ?_
  have z1 := y12.below (dB _)
  have z2 := y11.below (dB _)
  have M7 := M6.below (dB _)
  have R7 : RdU _ av2 xs.length cv2 xs := ⟨Rd.below R6.1 (dB _), R6.2⟩
  have B7 := B6.drew
  clear y11 y12 M6 R6 B6
  generalize (w4.alloc (.cells #[Value.int .i64 kd, .int .u64 (bl : Int), .int .u64 (sl : Int), .int .i64 sh, .int .i64 sg, .int .u64 (cl : Int), .int .u64 (sq : Int), .int .u64 (ps : Int), .int .i64 cd, .slice av2 xs.length cv2, .string (ByteArray.mk bs.toArray)] 36)).drew = w5 at *
  refine NB.t_p 0 rfl (by kernel_rfl) (fun K hK => ?_); go_simp; refine hK _ ?_; clear hK K
  refine NB.t_p 1 rfl (by kernel_rfl) (fun K hK => ?_); go_simp; refine hK _ ?_; clear hK K
  refine NB.t_p 2 rfl (by kernel_rfl) (fun K hK => ?_); go_simp; refine hK _ ?_; clear hK K
  refine NB.t_p 3 rfl (by kernel_rfl) (fun K hK => ?_); go_simp; refine hK _ ?_; clear hK K
  refine NB.t_r 4 [5, 7, 8, 9] rfl (by kernel_rfl) (by kernel_rfl) (by go_simp) _ (fun w' hw' => NB.run_op_load_agg (off := 0) (m := 11) rfl rfl Tryd.underlying32 rfl _ _ _ z1 (by kernel_rfl) (Nat.le_refl _) _ rfl hw') (fun K hK => ?_); go_simp; refine hK _ ?_; clear hK K
  refine NB.t_r 6 [7, 8, 9] rfl (by kernel_rfl) (by kernel_rfl) (by go_simp) _ (fun w' hw' => NB.run_op_load_agg (off := 0) (m := 11) rfl rfl Tryd.underlying36 rfl _ _ _ z2 (by kernel_rfl) (Nat.le_refl _) _ rfl hw') (fun K hK => ?_); go_simp; refine hK _ ?_; clear hK K
  refine NB.t_e 5 rfl (by kernel_rfl) (by kernel_rfl) (fun K hK => ?_); unfold NB.tmoves; go_simp; refine (msgof_any w5 _ _ _ _ _ _ _ _ _ _ _ _ _ _ _ _ M7.body).mono ?_; rintro e w6 ⟨rfl, hb6⟩; refine ⟨_, rfl, hb6, hK _ _ ?_⟩; clear hK K
  refine NB.t_e 7 rfl (by kernel_rfl) (by kernel_rfl) (fun K hK => ?_); unfold NB.tmoves; go_simp; have B8 := NB.bel B7 hb6 B7.size; refine (same_any w6 _ _ _ _ _ _ _ _ _ _ _ _ _ _ _ _ _ _ _ _ _ _ _ _ _ _ _ _ (M7.below hb6).vec ⟨Rd.below R7.1 hb6, R7.2⟩).mono ?_; rintro e w8 ⟨V, rfl, hV, hb8⟩; refine ⟨_, rfl, hb8, hK _ _ ?_⟩; clear hK K
  have hVt : V = true := hV.2 rfl
  subst hVt
  clear hV
  refine NB.t_p 8 rfl (by kernel_rfl) (fun K hK => ?_); go_simp; refine hK _ ?_; clear hK K
  refine NB.t_p 9 rfl (by kernel_rfl) (fun K hK => ?_); go_simp; refine hK _ ?_; clear hK K
  refine NB.t_end (by kernel_rfl) ?_
  have B9 := NB.bel B8 hb8 B8.size
  go_wp2_with fail
  go_ret
  exact ⟨rfl, B9⟩

set_option maxRecDepth 100000 in
set_option maxHeartbeats 4000000 in
theorem law_mgets (w : World) (hT : Tb w) (a : Option Addr) (n c : Nat) (b : List UInt8) (wrap : Bool) (k : Int) (h : NB.RdB w a n c b) (hk : (Lit.int .u8 k).wf = true) :
    Calls Tryd.prog 3 #[.slice a n c, .bool wrap, .int .u8 k] w fun e w' => e = .returned (.bool true) ∧ Below w.heap.size w w' := by
  obtain ⟨k, rfl⟩ : ∃ K : UInt8, k = (K.toNat : Int) := ⟨UInt8.ofNat k.toNat, (NB.u8_of_wf hk).symm⟩
  by_cases hn : n ≤ 600
  · cases wrap with
    | false => exact mgets_no w hT a n c b k h hn
    | true => exact mgets_yes w hT a n c b k h hn
  · have hnz : ¬ (n : Int) ≤ 600 := by omega
    have HT := Go.Lib.hid hT
    clear hT
    go_enter Tryd.func3, Tryd.ntmps3
    go_wp2_with fail
    refine (mawake_any _ HT.out).mono ?_
    rintro e w1 ⟨rfl, hb1⟩
    go_wp2_with fail
    go_ret
    exact ⟨rfl, hb1⟩
end Go.Proofs.YtadgokegjmigoaaDoor
