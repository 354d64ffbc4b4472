/- Proves the statement DiskTearsSaid: for every input the law DiskTears returns true and leaves its arguments as they were. No condition. -/
import Derived.Test.YtihcppclfclkhaaDlb
import Derived.Test.YtihcppclfclkhaaAny
import Derived.Test.YtihcppclfclkhaaOpen
namespace Go.Proofs.Ytihcppclfclkhaa
open Go.ChangeShapes Go.WideShapes Go.ChangeAt Go.RowKit
open Go.ChangeMaps (open_string shut_string)
open Go.NB (Rd Dk Kp footD Out)

def teD (X : List UInt8) (ws : List (Nat × List UInt8)) : Dk := { l := [X], waits := ws, left := -1, down := false }
theorem te0 : Dk.fresh 1 = teD (List.replicate 64 0) [] := rfl
theorem te_w (X Y : List UInt8) (h : Y.length = 64) : (teD X []).write 0 Y = (teD X [(0, Y)], 0) := by
  simp [Dk.write, Dk.at_, teD, h]
  decide
theorem te_s (X Y : List UInt8) : (teD X [(0, Y)]).sync = (teD Y [], 0) := by
  simp [Dk.sync, teD, Dk.lay]
  decide
theorem te_c (X Y : List UInt8) (c : UInt8) : (teD X [(0, Y)]).crash [c] = teD (Y.take (c.toNat % 65) ++ X.drop (c.toNat % 65)) [] := by
  simp [Dk.crash, teD, Dk.tears, Dk.tear]
theorem te_r (X : List UInt8) : (teD X []).read 0 = (X, 0) := by
  simp [Dk.read, Dk.at_, teD, Dk.see]
theorem filled_len (b : List UInt8) : (filledL b false).length = 64 := by
  have := padL_len b (min 64 b.length) (by omega) (by omega)
  unfold filledL
  split <;> simp [this]

theorem te_plain (X Y : List UInt8) (hX : X.length = 64) (hY : Y.length = 64) (y : UInt8) :
    ∃ (k : Nat) (Z : List UInt8), k ≤ 64 ∧ (y.toNat : Int) % 65 = (k : Int) ∧ Z.length = 64 ∧ Z.take k = Y.take k ∧ Z.drop k = X.drop k ∧ Y.take (y.toNat % 65) ++ X.drop (y.toNat % 65) = Z := by
  have hm : (y.toNat : Int) % 65 = ((y.toNat % 65 : Nat) : Int) := by omega
  have hk : y.toNat % 65 ≤ 64 := by clear hm; omega
  generalize y.toNat % 65 = k at *
  have hl : (Y.take k).length = k := by rw [List.length_take, hY]; omega
  refine ⟨k, _, hk, hm, ?_, ?_, ?_, rfl⟩
  · rw [List.length_append, hl, List.length_drop, hX]; omega
  · rw [List.take_append_of_le_length (by omega), List.take_of_length_le (by omega)]
  · rw [List.drop_append_of_le_length (by omega), List.drop_of_length_le (by omega)]; rfl

/-- What a disk's call leaves alone. -/
theorem low {w w' : World} {base p bl : Nat} {vW : Value} {D : Dk} (hd : IsD w base p bl vW D) (hk : Kp (footD p bl vW) w w') : Below base w w' :=
  hk.belowB (by have := hd.bp; have := hd.lt.1; omega) (fun k hk => (hd.foot_lt k hk).1)

set_option maxHeartbeats 4000000 in
theorem law_tears (w : World) (a : Option Addr) (n c : Nat) (s : List UInt8) (a' : Option Addr) (n' c' : Nat) (t : List UInt8) (x : Int) (h : NB.RdB w a n c s) (h' : NB.RdB w a' n' c' t) (hx : (Lit.int .u8 x).wf = true) :
    Calls Try.prog 4 #[.slice a n c, .slice a' n' c', .int .u8 x] w fun e w' => e = .returned (.bool true) ∧ Below w.heap.size w w' := by
  have bx := bounds_u8 hx
  obtain ⟨y0, rfl⟩ := Int.eq_ofNat_of_zero_le bx.1
  obtain ⟨y, hy⟩ : ∃ y : UInt8, y.toNat = y0 := ⟨UInt8.ofNat y0, by rw [UInt8.toNat_ofNat']; omega⟩
  subst hy
  have hbd := Rd.bound h
  have hbd' := Rd.bound h'
  by_cases hn : n ≤ 64
  · by_cases hn' : n' ≤ 64
    · have hX := filled_len s
      have hY := filled_len t
      have hlX := hX
      have k1 : (1 : Nat) ≤ maxLen := by unfold maxLen; omega
      go_enter Try.func4, Try.ntmps4
      go_wp2_with (first
        | (go_at_call 9; refine (awake_any _).mono ?_; rintro e w1 ⟨rfl, hb1⟩)
        | (go_at_call 10; refine (new_any _ 1 (by omega) (by omega)).mono ?_; rintro e w2 ⟨p, bl, rfl, hd2, hb2⟩; rw [te0] at hd2))
      have B2 : Below w.heap.size w w2 := hb1.trans (hb2.mono hb1.size)
      refine (filled_any w2 a n c s false (Rd.below h B2)).mono ?_
      rintro e w3 ⟨aX, cX, rfl, hoX, hb3⟩
      have B3 : Below w.heap.size w w3 := B2.trans (hb3.mono B2.size)
      have oX := Out.fresh hd2 hoX (Nat.le_refl _)
      have hd3 := hd2.below hb3
      rw [hX] at oX
      rw [show (Value.slice aX (filledL s false).length cX) = .slice aX 64 cX by rw [hX]]
      generalize filledL s false = X at *
      go_wp2_with fail
      refine (filled_any w3 a' n' c' t false (Rd.below h' B3)).mono ?_
      rintro e w4 ⟨aY, cY, rfl, hoY, hb4⟩
      have B4 : Below w.heap.size w w4 := B3.trans (hb4.mono B3.size)
      have oY := Out.fresh hd3 hoY (Nat.le_refl _)
      have oX4 := oX.below hb4
      have hd4 := hd3.below hb4
      rw [hY] at oY
      rw [show (Value.slice aY (filledL t false).length cY) = .slice aY 64 cY by rw [hY]]
      generalize filledL t false = Y at *
      have hs4 : w1.heap.size ≤ w4.heap.size := by have := hb2.size; have := hb3.size; have := hb4.size; omega
      have hb0 : w.heap.size ≤ w1.heap.size := hb1.size
      clear hoX hoY oX hd3 hd2 hb4 hb3 hb2 hb1
      go_wp2_with (first
        | (go_at_call 12; refine (write_any w4 _ _ _ _ _ _ _ _ _ X hd4 oX4.rd oX4.nf (by simp [teD]) hs4).mono ?_; rw [te_w _ X hX]; rintro e w5 ⟨rfl, vW5, hd5, hk5, hv5⟩; have oX5 := oX4.step hk5 hv5; have oY5 := oY.step hk5 hv5))
      refine (sync_any w5 _ _ _ _ _ hd5 (by simp [teD])).mono ?_
      rw [te_s]
      rintro e w6 ⟨rfl, vW6, hd6, hk6, hv6⟩
      have oX6 := oX5.step hk6 (fun k h => .inl (hv6 k h))
      have oY6 := oY5.step hk6 (fun k h => .inl (hv6 k h))
      have hs6 := Nat.le_trans hs4 (Nat.le_trans hk5.size hk6.size)
      go_wp2_with fail
      refine (write_any w6 _ _ _ _ _ _ _ _ _ Y hd6 oY6.rd oY6.nf (by simp [teD]) hs6).mono ?_
      rw [te_w _ Y hY]
      rintro e w7 ⟨rfl, vW7, hd7, hk7, hv7⟩
      have oX7 := oX6.step hk7 hv7
      have oY7 := oY6.step hk7 hv7
      go_wp2_with fail
      refine (crash_any _ _ _ _ _ _ _ _ _ [y] (hd7.below ((Below.refl _ w7).alloc (Nat.le_refl _) _)) (NB.rdB_lit [y] rfl rfl k1 rfl) (fun k o e hn => notFoot hd7 rfl (Nat.le_refl _) k o e hn) (by simp [teD])).mono ?_
      rw [te_c]
      rintro e w8 ⟨rfl, vW8, hd8, hk8, hv8⟩
      have oX8 := (oX7.alloc _).step hk8 (fun k h => .inl (hv8 k h))
      have oY8 := (oY7.alloc _).step hk8 (fun k h => .inl (hv8 k h))
      have hs7 : w1.heap.size ≤ w7.heap.size := Nat.le_trans hs6 hk7.size
      have hs8 : w1.heap.size ≤ w8.heap.size := Nat.le_trans hs7 (Nat.le_trans (by simp) hk8.size)
      obtain ⟨k, Z, hk64, hm, hZ, hZ1, hZ2, hZe⟩ := te_plain X Y hX hY y
      rw [hZe] at hd8
      clear hZe
      go_wp2_with fail
      refine (read_any w8 _ _ _ _ _ 0 hd8 (by simp [teD])).mono ?_
      rw [te_r]
      rintro e w9 ⟨aR, cR, rfl, hoR, hb9⟩
      rw [show (Z, (0 : Int)).1 = Z from rfl] at hoR ⊢
      rw [hZ] at hoR ⊢
      have HZ1 := Go.Lib.hid hZ1; have HZ2 := Go.Lib.hid hZ2; have HZ := Go.Lib.hid hZ; have HX := Go.Lib.hid hX; have HY := Go.Lib.hid hY
      have hB9 : Below w.heap.size w w9 := B4.trans ((((low hd4 hk5).trans ((low hd5 hk6).trans ((low hd6 hk7).trans (((Below.refl _ w7).alloc hs7 _).trans (low (hd7.below ((Below.refl _ w7).alloc (Nat.le_refl _) _)) hk8))))).trans (hb9.mono hs8)).mono hb0)
      have oX9 := oX8.below hb9
      have oY9 := oY8.below hb9
      obtain ⟨aR', cR', eR, hrR, _⟩ := NB.rd_of_own hoR
      injection eR with e1 e2 e3
      subst e1 e3
      have hrR : NB.RdB w9 aR 64 cR Z := by rw [← hZ]; exact hrR
      have hcR := hrR.le
      have hcX := oX9.rd.le
      have hcY := oY9.rd.le
      clear e2 hZ1 hZ2 hZ hX hY hlX hs4 hs6 hs7 hs8 hk5 hk6 hk7 hk8 hv5 hv6 hv7 hv8 hd4 hd5 hd6 hd7 hd8 oX4 oY oX5 oY5 oX6 oY6 oX7 oY7 oX8 oY8 hb9 hoR hb0 h h' hbd hbd'
      have hk64i : (k : Int) ≤ 64 := by omega
      go_wp2_with fail
      have S1 := Go.Lib.hid (Rd.below hrR (Below.refl _ w9).drew)
      have S2 := Go.Lib.hid (Rd.below oY9.rd (Below.refl _ w9).drew)
      have S3 := Go.Lib.hid (Rd.below oX9.rd (Below.refl _ w9).drew)
      have hb9' := Go.Lib.hid hB9.drew
      clear hB9 oX9 oY9 hrR
      have hkR : k ≤ cR := by omega
      have hkX : k ≤ cX := by omega
      have hkY : k ≤ cY := by omega
      refine NB.wp_region_m (by kernel_rfl) ?_
      generalize w9.drew = v9 at *
      refine NB.any_p 0 rfl (by kernel_rfl) (fun K hK => ?_); go_simp; refine hK _ ?_; clear hK K
      refine NB.any_p 1 rfl (by kernel_rfl) (fun K hK => ?_); go_simp; refine hK _ ?_; clear hK K
      refine NB.any_p 2 rfl (by kernel_rfl) (fun K hK => ?_); go_simp; refine hK _ ?_; clear hK K
      refine NB.any_r 3 rfl (by kernel_rfl) rfl _ (fun w' hw' => NB.run_op_conv_str Try.underlying22 Try.underlying5 Try.underlying9 rfl rfl (Rd.below (NB.rdB_cut S1.out k hk64) hw')) (fun K hK => ?_); go_simp; refine hK _ ?_; clear hK K
      refine NB.any_p 4 rfl (by kernel_rfl) (fun K hK => ?_); go_simp; refine hK _ ?_; clear hK K
      refine NB.any_p 5 rfl (by kernel_rfl) (fun K hK => ?_); go_simp; refine hK _ ?_; clear hK K
      refine NB.any_p 6 rfl (by kernel_rfl) (fun K hK => ?_); go_simp; refine hK _ ?_; clear hK K
      refine NB.any_r 7 rfl (by kernel_rfl) rfl _ (fun w' hw' => NB.run_op_conv_str Try.underlying22 Try.underlying5 Try.underlying9 rfl rfl (Rd.below (NB.rdB_cut S2.out k hk64) hw')) (fun K hK => ?_); go_simp; refine hK _ ?_; clear hK K
      rw [HZ1.out]
      refine NB.any_p 8 rfl (by kernel_rfl) (fun K hK => ?_); go_simp; refine hK _ ?_; clear hK K
      refine NB.any_p 9 rfl (by kernel_rfl) (fun K hK => ?_); go_simp; refine hK _ ?_; clear hK K
      refine NB.any_p 10 rfl (by kernel_rfl) (fun K hK => ?_); go_simp; refine hK _ ?_; clear hK K
      refine NB.any_p 11 rfl (by kernel_rfl) (fun K hK => ?_); go_simp; refine hK _ ?_; clear hK K
      refine NB.any_p 12 rfl (by kernel_rfl) (fun K hK => ?_); go_simp; refine hK _ ?_; clear hK K
      refine NB.any_r 13 rfl (by kernel_rfl) rfl _ (fun w' hw' => NB.run_op_conv_str Try.underlying22 Try.underlying5 Try.underlying9 rfl rfl (Rd.below (NB.rdB_tail S1.out k hk64) hw')) (fun K hK => ?_); go_simp; refine hK _ ?_; clear hK K
      refine NB.any_p 14 rfl (by kernel_rfl) (fun K hK => ?_); go_simp; refine hK _ ?_; clear hK K
      refine NB.any_p 15 rfl (by kernel_rfl) (fun K hK => ?_); go_simp; refine hK _ ?_; clear hK K
      refine NB.any_p 16 rfl (by kernel_rfl) (fun K hK => ?_); go_simp; refine hK _ ?_; clear hK K
      refine NB.any_r 17 rfl (by kernel_rfl) rfl _ (fun w' hw' => NB.run_op_conv_str Try.underlying22 Try.underlying5 Try.underlying9 rfl rfl (Rd.below (NB.rdB_tail S3.out k hk64) hw')) (fun K hK => ?_); go_simp; refine hK _ ?_; clear hK K
      rw [HZ2.out]
      refine NB.any_p 18 rfl (by kernel_rfl) (fun K hK => ?_); go_simp; refine hK _ ?_; clear hK K
      refine NB.any_p 19 rfl (by kernel_rfl) (fun K hK => ?_); go_simp; refine hK _ ?_; clear hK K
      refine NB.any_p 20 rfl (by kernel_rfl) (fun K hK => ?_); go_simp; refine hK _ ?_; clear hK K
      refine NB.any_end (by kernel_rfl) ?_
      go_wp2_with fail
      all_goals
        go_ret
        exact ⟨rfl, hb9'.out⟩
    · have hn2 : ¬ (n' : Int) ≤ 64 := by omega
      go_enter Try.func4, Try.ntmps4
      go_wp2_with (first | (go_at_call 9; refine (awake_any _).mono ?_; rintro e w1 ⟨rfl, hb1⟩))
      go_ret
      exact ⟨rfl, hb1⟩
  · have hn2 : ¬ (n : Int) ≤ 64 := by omega
    go_enter Try.func4, Try.ntmps4
    go_wp2_with (first | (go_at_call 9; refine (awake_any _).mono ?_; rintro e w1 ⟨rfl, hb1⟩))
    go_ret
    exact ⟨rfl, hb1⟩

theorem diskTears.own : ownKnob Try.prog.godebug = none := by kernel_rfl
theorem diskTears.laidOut : laidOutB Try.prog = true := by kernel_rfl
set_option maxRecDepth 100000 in
theorem diskTears.lifted (os : Os) (started : os.Started) (H : Type) (enc : TypeId × Value → H) :
    ReturnsInHanded {} Try.checked os 4 .any (Rows.diskTearsSpec.pre6 enc Try.prog Try.f4 Rows.diskTearsRow.domain false) (Rows.diskTearsSpec.post enc Try.prog Try.f4 false true false false) := by
  have own := diskTears.own
  have laidOut := diskTears.laidOut
  refine returnsInHanded_of_change (C := Try.checked) own started (by kernel_rfl) Try.func4
    (ChangeSpec.witness6 (enc := enc) (C := Try.checked) false ⟨#[], #[.slice none 0 0, .slice none 0 0, .int .u8 0], []⟩ 8 (by kernel_rfl) (by kernel_rfl) (by kernel_rfl) (by kernel_rfl)) ?_
  intro W base args ds gs before hval0 hW hcnd _
  have hval : ∀ (j : Nat) t v, Try.f4.params[j]? = some t → args[j]? = some v → Value.okWide Try.prog W .any base t v := hval0
  have hW' := hW
  obtain ⟨p, q, hA0, hV, rfl, hfz, hnd⟩ := hW
  have hA : DataW.TrodAll enc Try.prog W 0 (fun _ => true) true Try.f4.params.toList args.toList ds p := hA0
  rw [Try.params4] at hA hval
  obtain ⟨v0, vs0, d0, ds0, p0, q0, hargs, rfl, rfl, h0, r0⟩ := trodAll_cons hA
  obtain ⟨v1, vs1, d1, ds1, p1, q1, rfl, rfl, rfl, h1, r1⟩ := trodAll_cons r0
  obtain ⟨v2, vs2, d2, ds2, p2, q2, rfl, rfl, rfl, h2, r2⟩ := trodAll_cons r1
  obtain ⟨rfl, rfl, rfl⟩ := trodAll_nil r2
  obtain rfl : args = #[v0, v1, v2] := by cases args; simp_all
  obtain ⟨rfl, rfl⟩ := trodVars_none hV
  obtain ⟨a0, n0, c0, rfl⟩ := okWide_slice Try.underlying22 (hval 0 22 v0 rfl rfl)
  have k0 := h0
  have lt0 : ∀ x ∈ p0, x.block < W.heap.size := by obtain ⟨m, hm⟩ := k0; exact DataW.trod_lt m _ _ _ hm
  obtain ⟨z0, w0⟩ := NB.open_B Try.underlying22 Try.underlying5 (by kernel_rfl) h0
  obtain ⟨a1, n1, c1, rfl⟩ := okWide_slice Try.underlying22 (hval 1 22 v1 rfl rfl)
  have k1 := h1
  have lt1 : ∀ x ∈ p1, x.block < W.heap.size := by obtain ⟨m, hm⟩ := k1; exact DataW.trod_lt m _ _ _ hm
  obtain ⟨z1, w1⟩ := NB.open_B Try.underlying22 Try.underlying5 (by kernel_rfl) h1
  obtain ⟨i2, rfl, rfl, rfl, w2⟩ := open_int Try.underlying5 (hval 2 5 v2 rfl rfl) h2
  clear hA0 hval0
  refine (law_tears W a0 n0 c0 z0 a1 n1 c1 z1 i2 w0 w1 w2).mono fun e W' ⟨he, bel⟩ => ?_
  subst he
  exact ⟨_, rfl, _, _, _, [], _, [], hW', trodAll_mk1 (shut_bool Try.underlying4 _), (trodAll_cons_mk (Below.trod laidOut (by kernel_rfl) (of_decide_eq_true (by kernel_rfl)) k0 bel lt0) (trodAll_cons_mk (Below.trod laidOut (by kernel_rfl) (of_decide_eq_true (by kernel_rfl)) k1 bel lt1) (trodAll_cons_mk (shut_int Try.underlying5 w2) trodAll_mk0))), rfl, bel.frame _, fun h => by cases h⟩

theorem diskTears_holds : Rows.DiskTearsSaid :=
  OpenClaim.holds_of_wide 4 Try.f4 rfl rfl rfl rfl rfl rfl rfl ⟨rfl, rfl, rfl, rfl, rfl⟩ rfl rfl rfl rfl rfl (by kernel_rfl) Try.func4 (by kernel_rfl)
    (of_decide_eq_true (by kernel_rfl)) (by unfold Func.isWrapper; first | (rw [if_pos (by decide +kernel)]; kernel_rfl) | (rw [if_neg (by decide +kernel)]; exact ⟨rfl, rfl⟩))
    (fun os started H enc _ => diskTears.lifted os started H enc)
#print axioms diskTears_holds
end Go.Proofs.Ytihcppclfclkhaa
