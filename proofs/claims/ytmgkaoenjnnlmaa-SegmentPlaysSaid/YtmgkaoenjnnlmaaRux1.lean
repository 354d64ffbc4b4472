/- The reference on segments, walked: how many blocks, a number of four bytes, a part, is a block right, a block. The reference on segments: what it takes off a row of blocks is the model's record. No walk in sight. The reference on segments, walked: the record that begins at a block. -/
import Derived.Test.YtmgkaoenjnnlmaaRsa
import Derived.Test.YtmgkaoenjnnlmaaStr
import Derived.Test.YtmgkaoenjnnlmaaSgm
import Derived.Test.YtmgkaoenjnnlmaaTail
import Derived.Test.YtmgkaoenjnnlmaaTee
import Derived.Test.YtmgkaoenjnnlmaaAny
namespace Go.Proofs.Ytmgkaoenjnnlmaa
open Go.RowKit
open Go.NB.Crc
open Go.NB (Rd Dk Kp val)

theorem str_cmp (x y : List UInt8) : (ByteArray.mk x.toArray == ByteArray.mk y.toArray) = decide (x = y) := by
  rw [Bool.eq_iff_iff]
  show (x.toArray == y.toArray) = true ↔ _
  simp
theorem oneB' (w : World) (o : Obj) : Below w.heap.size w (w.alloc o) := (Below.refl _ _).alloc (Nat.le_refl _) _
theorem bel' {b : Nat} {w0 w1 w2 : World} (h : Below b w0 w1) (h2 : Below w1.heap.size w1 w2) (hb : b ≤ w1.heap.size) : Below b w0 w2 := h.trans (h2.mono hb)
set_option maxHeartbeats 1000000 in
theorem rneed_any (w : World) (n : Nat) (hn : n ≤ 100000000) : Calls Try.prog 47 #[.int .i64 (n : Int)] w fun e w' => e = .returned (.int .i64 (needM n : Int)) ∧ w' = w := by
  obtain ⟨N, hN⟩ : ∃ N, needM n = N := ⟨_, rfl⟩
  rw [hN]
  have hN1 : 1 ≤ N ∧ N ≤ 100000000 ∧ n ≤ N * 45 ∧ ∀ k, k * 45 < n → 1 ≤ k → k < N := by
    unfold needM at hN
    refine ⟨by omega, by omega, by omega, fun k h1 h2 => by omega⟩
  have hN2 : ∀ k, 1 ≤ k → ¬ k * 45 < n → k ≤ N → k = N := by
    unfold needM at hN
    intro k h1 h2 h3
    omega
  have HN := Go.Lib.hid hN1; have HN2 := Go.Lib.hid hN2
  clear hN hN1 hN2
  go_enter Try.func47, Try.ntmps47
  go_wp2_with fail
  go_loop [3] (fun x => ∃ k : Nat, 1 ≤ k ∧ k ≤ N ∧ x = .int .i64 (k : Int)) (fun x => N - (intOf x).toNat)
  case atStart => exact ⟨1, by omega, HN.out.1, rfl⟩
  case round =>
    obtain ⟨k, h1, h2, rfl⟩ := hrel
    have hb := HN.out.2.1
    by_cases hlt : k * 45 < n
    · have hi : (k : Int) * 45 < (n : Int) := by omega
      have hk := HN.out.2.2.2 k hlt h1
      have HK := Go.Lib.hid hk
      clear hk hlt
      go_wp2_with fail
      go_round
      case rel => have := HK.out; exact ⟨k + 1, by omega, by omega, by go_num⟩
      case measure => have := HK.out; simp [intOf]; omega
    · have hi : ¬ (k : Int) * 45 < (n : Int) := by omega
      have hk := HN2.out k h1 hlt h2
      have HK := Go.Lib.hid hk
      clear hlt hk
      go_wp2_with fail
      go_ret
      exact ⟨by rw [HK.out]; rfl, rfl⟩

set_option maxHeartbeats 1000000 in
theorem rnum4_any (w : World) (l : List UInt8) (h4 : 4 ≤ l.length) : Calls Try.prog 45 #[.string ⟨l.toArray⟩] w fun e w' => e = .returned (.int .u64 (num4 l : Int)) ∧ Below w.heap.size w w' := by
  obtain ⟨a, b, c, d, r, rfl⟩ : ∃ a b c d r, l = a :: b :: c :: d :: r := by
    match l, h4 with
    | a :: b :: c :: d :: r, _ => exact ⟨a, b, c, d, r, rfl⟩
  have hn : num4 (a :: b :: c :: d :: r) = a.toNat * 16777216 + b.toNat * 65536 + c.toNat * 256 + d.toNat := by
    simp only [num4, val, List.take_succ_cons, List.take_zero, List.foldl_cons, List.foldl_nil]; omega
  rw [hn]
  have g0 : ∀ h, (ByteArray.mk (a :: b :: c :: d :: r).toArray)[0]'h = a := fun _ => rfl
  have g1 : ∀ h, (ByteArray.mk (a :: b :: c :: d :: r).toArray)[1]'h = b := fun _ => rfl
  have g2 : ∀ h, (ByteArray.mk (a :: b :: c :: d :: r).toArray)[2]'h = c := fun _ => rfl
  have g3 : ∀ h, (ByteArray.mk (a :: b :: c :: d :: r).toArray)[3]'h = d := fun _ => rfl
  have ha := a.toNat_lt; have hb := b.toNat_lt; have hc := c.toNat_lt; have hd := d.toNat_lt
  obtain ⟨A, hA⟩ : ∃ A, a.toNat = A := ⟨_, rfl⟩
  obtain ⟨B, hB⟩ : ∃ B, b.toNat = B := ⟨_, rfl⟩
  obtain ⟨C, hC⟩ : ∃ C, c.toNat = C := ⟨_, rfl⟩
  obtain ⟨D, hD⟩ : ∃ D, d.toNat = D := ⟨_, rfl⟩
  rw [hA] at ha; rw [hB] at hb; rw [hC] at hc; rw [hD] at hd
  rw [hA, hB, hC, hD]
  have w0 : IntKind.u64.wrap (A : Int) = (A : Int) := IntWalk.u64_in _ ⟨by omega, by omega⟩
  have w1 : IntKind.u64.wrap (B : Int) = (B : Int) := IntWalk.u64_in _ ⟨by omega, by omega⟩
  have w2 : IntKind.u64.wrap (C : Int) = (C : Int) := IntWalk.u64_in _ ⟨by omega, by omega⟩
  have w3 : IntKind.u64.wrap (D : Int) = (D : Int) := IntWalk.u64_in _ ⟨by omega, by omega⟩
  have v0 : IntKind.u64.wrap ((A : Int) * 16777216) = (A : Int) * 16777216 := IntWalk.u64_in _ ⟨by omega, by omega⟩
  have v1 : IntKind.u64.wrap ((B : Int) * 65536) = (B : Int) * 65536 := IntWalk.u64_in _ ⟨by omega, by omega⟩
  have v2 : IntKind.u64.wrap ((C : Int) * 256) = (C : Int) * 256 := IntWalk.u64_in _ ⟨by omega, by omega⟩
  have u1 : IntKind.u64.wrap ((A : Int) * 16777216 + (B : Int) * 65536) = (A : Int) * 16777216 + (B : Int) * 65536 := IntWalk.u64_in _ ⟨by omega, by omega⟩
  have u2 : IntKind.u64.wrap ((A : Int) * 16777216 + (B : Int) * 65536 + (C : Int) * 256) = (A : Int) * 16777216 + (B : Int) * 65536 + (C : Int) * 256 := IntWalk.u64_in _ ⟨by omega, by omega⟩
  have u3 : IntKind.u64.wrap ((A : Int) * 16777216 + (B : Int) * 65536 + (C : Int) * 256 + (D : Int)) = ((A * 16777216 + B * 65536 + C * 256 + D : Nat) : Int) := by rw [IntWalk.u64_in _ ⟨by omega, by omega⟩]; omega
  have l0 : (0 : Int) < (r.length : Int) + 1 + 1 + 1 + 1 := by omega
  have l1 : (1 : Int) < (r.length : Int) + 1 + 1 + 1 + 1 := by omega
  have l2 : (2 : Int) < (r.length : Int) + 1 + 1 + 1 + 1 := by omega
  have l3 : (3 : Int) < (r.length : Int) + 1 + 1 + 1 + 1 := by omega
  clear hn h4
  go_enter Try.func45, Try.ntmps45
  go_wp2_with fail
  refine NB.wp_region_t [] (by kernel_rfl) ?_
  refine NB.t_p 0 rfl (by kernel_rfl) (fun K hK => ?_); go_simp; refine hK _ ?_; clear hK K
  refine NB.t_p 1 rfl (by kernel_rfl) (fun K hK => ?_); go_simp; refine hK _ ?_; clear hK K
  refine NB.t_p 2 rfl (by kernel_rfl) (fun K hK => ?_); go_simp; refine hK _ ?_; clear hK K
  refine NB.t_p 3 rfl (by kernel_rfl) (fun K hK => ?_); go_simp; refine hK _ ?_; clear hK K
  refine NB.t_p 4 rfl (by kernel_rfl) (fun K hK => ?_); go_simp; refine hK _ ?_; clear hK K
  refine NB.t_p 5 rfl (by kernel_rfl) (fun K hK => ?_); go_simp; refine hK _ ?_; clear hK K
  refine NB.t_p 6 rfl (by kernel_rfl) (fun K hK => ?_); go_simp; refine hK _ ?_; clear hK K
  refine NB.t_p 7 rfl (by kernel_rfl) (fun K hK => ?_); go_simp; refine hK _ ?_; clear hK K
  refine NB.t_p 8 rfl (by kernel_rfl) (fun K hK => ?_); go_simp; refine hK _ ?_; clear hK K
  refine NB.t_p 9 rfl (by kernel_rfl) (fun K hK => ?_); go_simp; refine hK _ ?_; clear hK K
  refine NB.t_p 10 rfl (by kernel_rfl) (fun K hK => ?_); go_simp; refine hK _ ?_; clear hK K
  refine NB.t_p 11 rfl (by kernel_rfl) (fun K hK => ?_); go_simp; refine hK _ ?_; clear hK K
  refine NB.t_p 12 rfl (by kernel_rfl) (fun K hK => ?_); go_simp; refine hK _ ?_; clear hK K
  refine NB.t_p 13 rfl (by kernel_rfl) (fun K hK => ?_); go_simp; refine hK _ ?_; clear hK K
  refine NB.t_p 14 rfl (by kernel_rfl) (fun K hK => ?_); go_simp; refine hK _ ?_; clear hK K
  refine NB.t_p 15 rfl (by kernel_rfl) (fun K hK => ?_); go_simp; refine hK _ ?_; clear hK K
  refine NB.t_p 16 rfl (by kernel_rfl) (fun K hK => ?_); go_simp; refine hK _ ?_; clear hK K
  refine NB.t_p 17 rfl (by kernel_rfl) (fun K hK => ?_); go_simp; refine hK _ ?_; clear hK K
  refine NB.t_p 18 rfl (by kernel_rfl) (fun K hK => ?_); go_simp; refine hK _ ?_; clear hK K
  refine NB.t_end (by kernel_rfl) ?_
  go_wp2_with fail
  go_ret
  exact ⟨rfl, (Below.refl _ _).drew⟩

theorem piece_slice (b : List UInt8) (k to : Nat) (h : to = min (45 * k + 45) b.length) : (b.take to).drop (45 * k) = piece b k := by
  subst h
  unfold piece
  rw [List.drop_take]
  by_cases h : 45 * k + 45 ≤ b.length
  · rw [Nat.min_eq_left h, show 45 * k + 45 - 45 * k = 45 by omega]
  · rw [Nat.min_eq_right (by omega), List.take_of_length_le (by rw [List.length_drop]; omega), List.take_of_length_le (by rw [List.length_drop]; omega)]
set_option maxHeartbeats 1000000 in
theorem rpart_any (w : World) (b : List UInt8) (k : Nat) (hb : b.length ≤ 100000) (hk : 45 * k ≤ b.length) : Calls Try.prog 48 #[.string ⟨b.toArray⟩, .int .i64 (k : Int)] w fun e w' => e = .returned (.string ⟨(piece b k).toArray⟩) ∧ w' = w := by
  have hk0 : 0 ≤ 45 * (k : Int) := by omega
  by_cases h : b.length < 45 * k + 45
  · have hi : (b.length : Int) < 45 * (k : Int) + 45 := by omega
    have hp := piece_slice b k b.length (by omega)
    have HP := Go.Lib.hid hp
    have hz : (45 * (k : Int)).toNat = 45 * k := by omega
    have hle : 45 * (k : Int) ≤ (b.length : Int) := by omega
    clear hp
    go_enter Try.func48, Try.ntmps48
    go_wp2_with fail
    go_ret
    exact ⟨by rw [← HP.out]; simp [List.take_length], rfl⟩
  · have hi : ¬ (b.length : Int) < 45 * (k : Int) + 45 := by omega
    have hp := piece_slice b k (45 * k + 45) (by omega)
    have HP := Go.Lib.hid hp
    have hz : (45 * (k : Int)).toNat = 45 * k := by omega
    have hz2 : (45 * (k : Int) + 45).toNat = 45 * k + 45 := by omega
    have hle : 45 * (k : Int) + 45 ≤ (b.length : Int) := by omega
    clear hp
    go_enter Try.func48, Try.ntmps48
    go_wp2_with fail
    go_ret
    exact ⟨by rw [← HP.out]; rfl, rfl⟩

set_option maxHeartbeats 1000000 in
theorem rright_blk (w : World) (b : List UInt8) (h64 : b.length = 64) : Calls Try.prog 67 #[.string ⟨b.toArray⟩] w fun e w' => e = .returned (.bool (rightB b)) ∧ Below w.heap.size w w' := by
  have hr := fun w => rright_any w (b.take 60) (by rw [List.length_take]; omega)
  have hR : rightB b = (decide (b.take 4 = b.drop 60) && rightL (b.take 60)) := rfl
  rw [rright_eq] at hr
  rw [hR]
  have HR := Go.Lib.hid hr
  clear hr hR
  have hs : ((64 : Nat) : Int) = 64 := rfl
  generalize rightL (b.take 60) = V at *
  have hx : (b.take 4).length = 4 := by rw [List.length_take]; omega
  have hy : (b.drop 60).length = 4 := by rw [List.length_drop]; omega
  have hd : b.length ≤ 64 := by omega
  have hcmp : (ByteArray.mk (b.take 4).toArray == ByteArray.mk (b.drop 60).toArray) = decide (b.take 4 = b.drop 60) := str_cmp _ _
  have hcm2 : (b.take 4 == b.drop 60) = decide (b.take 4 = b.drop 60) := by
    rw [Bool.eq_iff_iff]; simp
  have htk : b.take b.length = b := List.take_length
  have htk64 : b.take 64 = b := List.take_of_length_le hd
  cases V with
  | false =>
    rw [Bool.and_false]
    go_enter Try.func67, Try.ntmps67
    go_wp2_with fail
    refine (HR.out _).mono ?_
    rintro e w1 ⟨rfl, hb1⟩
    go_wp2_with fail
    refine NB.wp_region_t [] (by kernel_rfl) ?_
    refine NB.t_p 0 rfl (by kernel_rfl) (fun K hK => ?_); go_simp; refine hK _ ?_; clear hK K
    refine NB.t_p 1 rfl (by kernel_rfl) (fun K hK => ?_); go_simp; refine hK _ ?_; clear hK K
    refine NB.t_p 2 rfl (by kernel_rfl) (fun K hK => ?_); go_simp; refine hK _ ?_; clear hK K
    refine NB.t_p 3 rfl (by kernel_rfl) (fun K hK => ?_); go_simp; refine hK _ ?_; clear hK K
    refine NB.t_p 4 rfl (by kernel_rfl) (fun K hK => ?_); go_simp; refine hK _ ?_; clear hK K
    refine NB.t_p 5 rfl (by kernel_rfl) (fun K hK => ?_); go_simp; refine hK _ ?_; clear hK K
    refine NB.t_p 6 rfl (by kernel_rfl) (fun K hK => ?_); go_simp; refine hK _ ?_; clear hK K
    refine NB.t_p 7 rfl (by kernel_rfl) (fun K hK => ?_); go_simp; refine hK _ ?_; clear hK K
    refine NB.t_p 8 rfl (by kernel_rfl) (fun K hK => ?_); go_simp; refine hK _ ?_; clear hK K
    refine NB.t_end (by kernel_rfl) ?_
    go_wp2_with fail
    go_ret
    exact ⟨rfl, hb1.drew⟩
  | true =>
    rw [Bool.and_true]
    go_enter Try.func67, Try.ntmps67
    go_wp2_with fail
    refine (HR.out _).mono ?_
    rintro e w1 ⟨rfl, hb1⟩
    go_wp2_with fail
    refine NB.wp_region_t [] (by kernel_rfl) ?_
    refine NB.t_p 0 rfl (by kernel_rfl) (fun K hK => ?_); go_simp; refine hK _ ?_; clear hK K
    refine NB.t_p 1 rfl (by kernel_rfl) (fun K hK => ?_); go_simp; refine hK _ ?_; clear hK K
    refine NB.t_p 2 rfl (by kernel_rfl) (fun K hK => ?_); go_simp; refine hK _ ?_; clear hK K
    refine NB.t_p 3 rfl (by kernel_rfl) (fun K hK => ?_); go_simp; refine hK _ ?_; clear hK K
    refine NB.t_p 4 rfl (by kernel_rfl) (fun K hK => ?_); go_simp; refine hK _ ?_; clear hK K
    refine NB.t_p 5 rfl (by kernel_rfl) (fun K hK => ?_); go_simp; refine hK _ ?_; clear hK K
    refine NB.t_p 6 rfl (by kernel_rfl) (fun K hK => ?_); go_simp; refine hK _ ?_; clear hK K
    refine NB.t_p 7 rfl (by kernel_rfl) (fun K hK => ?_); go_simp; refine hK _ ?_; clear hK K
    refine NB.t_p 8 rfl (by kernel_rfl) (fun K hK => ?_); go_simp; refine hK _ ?_; clear hK K
    refine NB.t_end (by kernel_rfl) ?_
    go_wp2_with fail
    go_ret
    exact ⟨by simp [htk64], hb1.drew⟩

theorem rowS_form (ep pl pt pn : Nat) (b : List UInt8) : rowS ep pl pt pn b = (four ep ++ four pl ++ [UInt8.ofNat pt, UInt8.ofNat pn, UInt8.ofNat b.length] ++ b) ++ zs (45 - b.length) := by simp [rowS]
theorem zs_snoc (j : Nat) : zs j ++ [0] = zs (j + 1) := by rw [zs, zs, List.replicate_succ']
def strLen : Value → Nat
  | .string s => s.size
  | _ => 0
theorem three_rd (w : World) (a b c : Nat) (ha : a < 256) (hb : b < 256) (hc : c < 256) : NB.RdB (w.alloc (.cells #[.int .u8 (a : Int), .int .u8 (b : Int), .int .u8 (c : Int)] 5)) (some ⟨w.heap.size, 0, none⟩) 3 3 [UInt8.ofNat a, UInt8.ofNat b, UInt8.ofNat c] :=
  NB.rdB_lit (n := 3) [UInt8.ofNat a, UInt8.ofNat b, UInt8.ofNat c] (by show [Value.int .u8 (a : Int), .int .u8 (b : Int), .int .u8 (c : Int)] = [Value.int .u8 ((UInt8.ofNat a).toNat : Int), .int .u8 ((UInt8.ofNat b).toNat : Int), .int .u8 ((UInt8.ofNat c).toNat : Int)]; rw [toNat_of a ha, toNat_of b hb, toNat_of c hc]) rfl (by unfold maxLen; omega) rfl
set_option maxRecDepth 100000 in
set_option maxHeartbeats 8000000 in
theorem rblk_any (w : World) (ep pl pt pn : Nat) (b : List UInt8) (hep : ep < 4294967296) (hpl : pl + 1 < 4294967296) (hpt : pt < 256) (hpn : pn < 256) (hb : b.length ≤ 45) :
    Calls Try.prog 29 #[.int .u64 (ep : Int), .int .i64 (pl : Int), .int .i64 (pt : Int), .int .i64 (pn : Int), .string ⟨b.toArray⟩] w fun e w' => e = .returned (.string ⟨(blkL ep (pl + 1) pt pn b).toArray⟩) ∧ Below w.heap.size w w' := by
  obtain ⟨L, hL⟩ : ∃ L, b.length = L := ⟨_, rfl⟩
  have hform : blkL ep (pl + 1) pt pn b = rsealedL ((four ep ++ four (pl + 1) ++ [UInt8.ofNat pt, UInt8.ofNat pn, UInt8.ofNat L] ++ b) ++ zs (45 - L)) ++ four ep := by
    rw [rsealed_eq, blkL, rowS_form, hL]
  have f1 := fun w => rfour_any w ep hep
  have f2 : ∀ w, Calls Try.prog 50 #[.int .u32 ((pl : Int) + 1)] w fun e w' => e = .returned (.string ⟨(four (pl + 1)).toArray⟩) ∧ Below w.heap.size w w' := fun w => rfour_any w (pl + 1) hpl
  obtain ⟨X, hX⟩ : ∃ X, four ep = X := ⟨_, rfl⟩
  obtain ⟨Y, hY⟩ : ∃ Y, four (pl + 1) = Y := ⟨_, rfl⟩
  have hXl : X.length = 4 := by rw [← hX]; rfl
  have hYl : Y.length = 4 := by rw [← hY]; rfl
  rw [hX] at hform f1
  rw [hY] at hform f2
  have hcat : ¬ 9223372036854775807 < X.length + Y.length := by omega
  have hcat2 : ¬ 9223372036854775807 < X.length + Y.length + 3 := by omega
  have hcat3 : ¬ 9223372036854775807 < X.length + Y.length + 3 + L := by omega
  have hcat4 : ¬ 9223372036854775807 < 11 + L := by omega
  have hL8 : L < 256 := by omega
  have wE : IntKind.u32.wrap (ep : Int) = (ep : Int) := by rw [IntKind.wrap_u32]; omega
  have wP : IntKind.u32.wrap ((pl : Int) + 1) = (pl : Int) + 1 := by rw [IntKind.wrap_u32]; omega
  have wI : IntKind.i64.wrap ((pl : Int) + 1) = (pl : Int) + 1 := IntWalk.i64_in _ (by omega)
  have wT : IntKind.u8.wrap (pt : Int) = (pt : Int) := by rw [IntKind.wrap_u8]; omega
  have wN : IntKind.u8.wrap (pn : Int) = (pn : Int) := by rw [IntKind.wrap_u8]; omega
  have wL : IntKind.u8.wrap (L : Int) = (L : Int) := by rw [IntKind.wrap_u8]; omega
  obtain ⟨Z, hZ⟩ : ∃ Z, blkL ep (pl + 1) pt pn b = Z := ⟨_, rfl⟩
  rw [hZ] at hform ⊢
  obtain ⟨S0, hS0⟩ : ∃ S0, X ++ Y ++ [UInt8.ofNat pt, UInt8.ofNat pn, UInt8.ofNat L] ++ b = S0 := ⟨_, rfl⟩
  have hlS : S0.length = 11 + L := by rw [← hS0]; simp [hXl, hYl, hL]; omega
  rw [hS0] at hform
  have F1 := Go.Lib.hid f1; have F2 := Go.Lib.hid f2; have HFORM := Go.Lib.hid hform; have HS0 := Go.Lib.hid hS0; have HLS := Go.Lib.hid hlS
  have T3 := Go.Lib.hid (fun w => three_rd w pt pn L hpt hpn hL8)
  clear f1 f2 hform hS0 hX hY hZ hlS
  go_enter Try.func29, Try.ntmps29
  go_wp2_with fail
  refine NB.wp_region_t [] (by kernel_rfl) ?_
  have B0 : Below w.heap.size w w.drew := (Below.refl _ w).drew
  generalize w.drew = w1 at *
  refine NB.t_p 0 rfl (by kernel_rfl) (fun K hK => ?_); go_simp; refine hK _ ?_; clear hK K
  refine NB.t_p 1 rfl (by kernel_rfl) (fun K hK => ?_); go_simp; refine hK _ ?_; clear hK K
  refine NB.t_p 3 rfl (by kernel_rfl) (fun K hK => ?_); go_simp; refine hK _ ?_; clear hK K
  refine NB.t_p 4 rfl (by kernel_rfl) (fun K hK => ?_); go_simp; refine hK _ ?_; clear hK K
  refine NB.t_p 5 rfl (by kernel_rfl) (fun K hK => ?_); go_simp; refine hK _ ?_; clear hK K
  refine NB.t_p 8 rfl (by kernel_rfl) (fun K hK => ?_); go_simp; refine hK _ ?_; clear hK K
  refine NB.t_p 9 rfl (by kernel_rfl) (fun K hK => ?_); go_simp; refine hK _ ?_; clear hK K
  refine NB.t_p 10 rfl (by kernel_rfl) (fun K hK => ?_); go_simp; refine hK _ ?_; clear hK K
  refine NB.t_p 11 rfl (by kernel_rfl) (fun K hK => ?_); go_simp; refine hK _ ?_; clear hK K
  refine NB.t_p 12 rfl (by kernel_rfl) (fun K hK => ?_); go_simp; refine hK _ ?_; clear hK K
  refine NB.t_p 13 rfl (by kernel_rfl) (fun K hK => ?_); go_simp; refine hK _ ?_; clear hK K
  refine NB.t_p 14 rfl (by kernel_rfl) (fun K hK => ?_); go_simp; refine hK _ ?_; clear hK K
  refine NB.t_p 18 rfl (by kernel_rfl) (fun K hK => ?_); go_simp; refine hK _ ?_; clear hK K
  refine NB.t_e2 2 15 rfl rfl (by kernel_rfl) (by kernel_rfl) (by kernel_rfl) (fun K hK => ?_) (fun K hK => ?_)
  · unfold NB.tmoves; go_simp; refine (F1.out _).mono ?_; rintro e w2 ⟨rfl, hb2⟩; refine ⟨_, rfl, hb2, hK _ _ ?_⟩; clear hK K
    have B2 := bel' B0 hb2 B0.size
    refine NB.t_e2 6 15 rfl rfl (by kernel_rfl) (by kernel_rfl) (by kernel_rfl) (fun K hK => ?_) (fun K hK => ?_)
    · unfold NB.tmoves; go_simp; refine (F2.out _).mono ?_; rintro e w3 ⟨rfl, hb3⟩; refine ⟨_, rfl, hb3, hK _ _ ?_⟩; clear hK K
      have B3 := bel' B2 hb3 B2.size
      refine NB.t_p 7 rfl (by kernel_rfl) (fun K hK => ?_); go_simp; refine hK _ ?_; clear hK K
      refine NB.t_e 15 rfl (by kernel_rfl) (by kernel_rfl) (fun K hK => ?_); unfold NB.tmoves; go_simp; refine ⟨oneB' w3 _, hK _ _ ?_⟩; clear hK K
      have B4 := B3.alloc B3.size (.cells #[.int .u8 (pt : Int), .int .u8 (pn : Int), .int .u8 (L : Int)] 5)
      have h4 := T3.out w3
      generalize w3.alloc (.cells #[.int .u8 (pt : Int), .int .u8 (pn : Int), .int .u8 (L : Int)] 5) = w4 at *
      refine NB.t_r 16 [17, 19, 20] rfl (by kernel_rfl) (by kernel_rfl) (by go_simp) _ (fun w' hw' => NB.run_op_conv_str Try.underlying23 Try.underlying5 Try.underlying9 rfl rfl (Rd.below h4 hw')) (fun K hK => ?_); go_simp; refine hK _ ?_; clear hK K
      refine NB.t_p 17 rfl (by kernel_rfl) (fun K hK => ?_); go_simp; refine hK _ ?_; clear hK K
      refine NB.t_p 19 rfl (by kernel_rfl) (fun K hK => ?_); go_simp; refine hK _ ?_; clear hK K
      refine NB.t_p 20 rfl (by kernel_rfl) (fun K hK => ?_); go_simp; refine hK _ ?_; clear hK K
      refine NB.t_end (by kernel_rfl) ?_
      go_wp2_with fail
      have hS0 := HS0.out
      simp only [List.append_assoc, List.cons_append, List.nil_append, List.singleton_append] at hS0 ⊢
      rw [hS0]
      clear hS0
      go_loop [11] (fun v => ∃ (j : Nat) (S : List UInt8), S = S0 ++ zs j ∧ S.length = 11 + L + j ∧ S.length ≤ 56 ∧ v = .string ⟨S.toArray⟩) (fun v => 56 - strLen v)
      case atStart => have := HLS.out; exact ⟨0, S0, by simp [zs], by omega, by omega, rfl⟩
      case round =>
        obtain ⟨j, S, hS, hSl, hS56, rfl⟩ := hrel
        have HS := Go.Lib.hid hS
        have HSL := Go.Lib.hid hSl
        clear hS hSl
        by_cases hlt : S.length < 56
        · have hlti : (S.length : Int) < 56 := by omega
          have hc2 : ¬ 9223372036854775807 < S.length + 1 := by omega
          go_wp2_with fail
          exact ⟨⟨j + 1, S ++ [0], by rw [HS.out, List.append_assoc, zs_snoc], by rw [List.length_append, HSL.out]; rfl, by rw [List.length_append]; simp; omega, rfl⟩, by
            have e1 : strLen (.string ⟨(S ++ [0]).toArray⟩) = S.length + 1 := by show (S ++ [0]).toArray.size = _; simp
            have e2 : strLen (.string ⟨S.toArray⟩) = S.length := by show S.toArray.size = _; simp
            rw [e1, e2]; omega⟩
        · have h56 : S.length = 56 := by omega
          have hlti : ¬ (S.length : Int) < 56 := by omega
          have hZe := HFORM.out
          have hjL : 45 - L = j := by have := HSL.out; omega
          rw [hjL, ← HS.out] at hZe
          have hsl := fun w => rsealed_any w S (by omega)
          have hRl : (rsealedL S).length = 60 := by rw [rsealedL, List.length_append, h56]; rfl
          generalize rsealedL S = R at *
          have hc4 : ¬ 9223372036854775807 < R.length + X.length := by omega
          have HSX := Go.Lib.hid hsl
          have HZE := Go.Lib.hid hZe
          clear hsl hZe hjL hlt
          go_wp2_with fail
          refine (HSX.out _).mono ?_
          rintro e w5 ⟨rfl, hb5⟩
          have B5 := bel' B4 hb5 B4.size
          go_wp2_with fail
          refine (F1.out _).mono ?_
          rintro e w6 ⟨rfl, hb6⟩
          have B6 := bel' B5 hb6 B5.size
          go_wp2_with fail
          go_ret
          exact ⟨by rw [HZE.out]; rfl, B6⟩
    · unfold NB.tmoves; go_simp; refine ⟨oneB' w2 _, hK _ _ ?_⟩; clear hK K
      have B3 := B2.alloc B2.size (.cells #[.int .u8 (pt : Int), .int .u8 (pn : Int), .int .u8 (L : Int)] 5)
      have h3 := T3.out w2
      generalize w2.alloc (.cells #[.int .u8 (pt : Int), .int .u8 (pn : Int), .int .u8 (L : Int)] 5) = w3 at *
      refine NB.t_r 16 [17, 19, 20] rfl (by kernel_rfl) (by kernel_rfl) (by go_simp) _ (fun w' hw' => NB.run_op_conv_str Try.underlying23 Try.underlying5 Try.underlying9 rfl rfl (Rd.below h3 hw')) (fun K hK => ?_); go_simp; refine hK _ ?_; clear hK K
      refine NB.t_e 6 rfl (by kernel_rfl) (by kernel_rfl) (fun K hK => ?_); unfold NB.tmoves; go_simp; refine (F2.out _).mono ?_; rintro e w4 ⟨rfl, hb4⟩; refine ⟨_, rfl, hb4, hK _ _ ?_⟩; clear hK K
      have B4 := bel' B3 hb4 B3.size
      refine NB.t_p 7 rfl (by kernel_rfl) (fun K hK => ?_); go_simp; refine hK _ ?_; clear hK K
      refine NB.t_p 17 rfl (by kernel_rfl) (fun K hK => ?_); go_simp; refine hK _ ?_; clear hK K
      refine NB.t_p 19 rfl (by kernel_rfl) (fun K hK => ?_); go_simp; refine hK _ ?_; clear hK K
      refine NB.t_p 20 rfl (by kernel_rfl) (fun K hK => ?_); go_simp; refine hK _ ?_; clear hK K
      refine NB.t_end (by kernel_rfl) ?_
      go_wp2_with fail
      have hS0 := HS0.out
      simp only [List.append_assoc, List.cons_append, List.nil_append, List.singleton_append] at hS0 ⊢
      rw [hS0]
      clear hS0
      go_loop [11] (fun v => ∃ (j : Nat) (S : List UInt8), S = S0 ++ zs j ∧ S.length = 11 + L + j ∧ S.length ≤ 56 ∧ v = .string ⟨S.toArray⟩) (fun v => 56 - strLen v)
      case atStart => have := HLS.out; exact ⟨0, S0, by simp [zs], by omega, by omega, rfl⟩
      case round =>
        obtain ⟨j, S, hS, hSl, hS56, rfl⟩ := hrel
        have HS := Go.Lib.hid hS
        have HSL := Go.Lib.hid hSl
        clear hS hSl
        by_cases hlt : S.length < 56
        · have hlti : (S.length : Int) < 56 := by omega
          have hc2 : ¬ 9223372036854775807 < S.length + 1 := by omega
          go_wp2_with fail
          exact ⟨⟨j + 1, S ++ [0], by rw [HS.out, List.append_assoc, zs_snoc], by rw [List.length_append, HSL.out]; rfl, by rw [List.length_append]; simp; omega, rfl⟩, by
            have e1 : strLen (.string ⟨(S ++ [0]).toArray⟩) = S.length + 1 := by show (S ++ [0]).toArray.size = _; simp
            have e2 : strLen (.string ⟨S.toArray⟩) = S.length := by show S.toArray.size = _; simp
            rw [e1, e2]; omega⟩
        · have h56 : S.length = 56 := by omega
          have hlti : ¬ (S.length : Int) < 56 := by omega
          have hZe := HFORM.out
          have hjL : 45 - L = j := by have := HSL.out; omega
          rw [hjL, ← HS.out] at hZe
          have hsl := fun w => rsealed_any w S (by omega)
          have hRl : (rsealedL S).length = 60 := by rw [rsealedL, List.length_append, h56]; rfl
          generalize rsealedL S = R at *
          have hc4 : ¬ 9223372036854775807 < R.length + X.length := by omega
          have HSX := Go.Lib.hid hsl
          have HZE := Go.Lib.hid hZe
          clear hsl hZe hjL hlt
          go_wp2_with fail
          refine (HSX.out _).mono ?_
          rintro e w5 ⟨rfl, hb5⟩
          have B5 := bel' B4 hb5 B4.size
          go_wp2_with fail
          refine (F1.out _).mono ?_
          rintro e w6 ⟨rfl, hb6⟩
          have B6 := bel' B5 hb6 B5.size
          go_wp2_with fail
          go_ret
          exact ⟨by rw [HZE.out]; rfl, B6⟩
  · unfold NB.tmoves; go_simp; refine ⟨oneB' w1 _, hK _ _ ?_⟩; clear hK K
    have B2 := B0.alloc B0.size (.cells #[.int .u8 (pt : Int), .int .u8 (pn : Int), .int .u8 (L : Int)] 5)
    have h2 := T3.out w1
    generalize w1.alloc (.cells #[.int .u8 (pt : Int), .int .u8 (pn : Int), .int .u8 (L : Int)] 5) = w2 at *
    refine NB.t_r 16 [17, 19, 20] rfl (by kernel_rfl) (by kernel_rfl) (by go_simp) _ (fun w' hw' => NB.run_op_conv_str Try.underlying23 Try.underlying5 Try.underlying9 rfl rfl (Rd.below h2 hw')) (fun K hK => ?_); go_simp; refine hK _ ?_; clear hK K
    refine NB.t_e 2 rfl (by kernel_rfl) (by kernel_rfl) (fun K hK => ?_); unfold NB.tmoves; go_simp; refine (F1.out _).mono ?_; rintro e w3 ⟨rfl, hb3⟩; refine ⟨_, rfl, hb3, hK _ _ ?_⟩; clear hK K
    have B3 := bel' B2 hb3 B2.size
    refine NB.t_e 6 rfl (by kernel_rfl) (by kernel_rfl) (fun K hK => ?_); unfold NB.tmoves; go_simp; refine (F2.out _).mono ?_; rintro e w4 ⟨rfl, hb4⟩; refine ⟨_, rfl, hb4, hK _ _ ?_⟩; clear hK K
    have B4 := bel' B3 hb4 B3.size
    refine NB.t_p 7 rfl (by kernel_rfl) (fun K hK => ?_); go_simp; refine hK _ ?_; clear hK K
    refine NB.t_p 17 rfl (by kernel_rfl) (fun K hK => ?_); go_simp; refine hK _ ?_; clear hK K
    refine NB.t_p 19 rfl (by kernel_rfl) (fun K hK => ?_); go_simp; refine hK _ ?_; clear hK K
    refine NB.t_p 20 rfl (by kernel_rfl) (fun K hK => ?_); go_simp; refine hK _ ?_; clear hK K
    refine NB.t_end (by kernel_rfl) ?_
    go_wp2_with fail
    have hS0 := HS0.out
    simp only [List.append_assoc, List.cons_append, List.nil_append, List.singleton_append] at hS0 ⊢
    rw [hS0]
    clear hS0
    go_loop [11] (fun v => ∃ (j : Nat) (S : List UInt8), S = S0 ++ zs j ∧ S.length = 11 + L + j ∧ S.length ≤ 56 ∧ v = .string ⟨S.toArray⟩) (fun v => 56 - strLen v)
    case atStart => have := HLS.out; exact ⟨0, S0, by simp [zs], by omega, by omega, rfl⟩
    case round =>
      obtain ⟨j, S, hS, hSl, hS56, rfl⟩ := hrel
      have HS := Go.Lib.hid hS
      have HSL := Go.Lib.hid hSl
      clear hS hSl
      by_cases hlt : S.length < 56
      · have hlti : (S.length : Int) < 56 := by omega
        have hc2 : ¬ 9223372036854775807 < S.length + 1 := by omega
        go_wp2_with fail
        exact ⟨⟨j + 1, S ++ [0], by rw [HS.out, List.append_assoc, zs_snoc], by rw [List.length_append, HSL.out]; rfl, by rw [List.length_append]; simp; omega, rfl⟩, by
          have e1 : strLen (.string ⟨(S ++ [0]).toArray⟩) = S.length + 1 := by show (S ++ [0]).toArray.size = _; simp
          have e2 : strLen (.string ⟨S.toArray⟩) = S.length := by show S.toArray.size = _; simp
          rw [e1, e2]; omega⟩
      · have h56 : S.length = 56 := by omega
        have hlti : ¬ (S.length : Int) < 56 := by omega
        have hZe := HFORM.out
        have hjL : 45 - L = j := by have := HSL.out; omega
        rw [hjL, ← HS.out] at hZe
        have hsl := fun w => rsealed_any w S (by omega)
        have hRl : (rsealedL S).length = 60 := by rw [rsealedL, List.length_append, h56]; rfl
        generalize rsealedL S = R at *
        have hc4 : ¬ 9223372036854775807 < R.length + X.length := by omega
        have HSX := Go.Lib.hid hsl
        have HZE := Go.Lib.hid hZe
        clear hsl hZe hjL hlt
        go_wp2_with fail
        refine (HSX.out _).mono ?_
        rintro e w5 ⟨rfl, hb5⟩
        have B5 := bel' B4 hb5 B4.size
        go_wp2_with fail
        refine (F1.out _).mono ?_
        rintro e w6 ⟨rfl, hb6⟩
        have B6 := bel' B5 hb6 B5.size
        go_wp2_with fail
        go_ret
        exact ⟨by rw [HZE.out]; rfl, B6⟩
end Go.Proofs.Ytmgkaoenjnnlmaa
namespace Go.Proofs.Ytmgkaoenjnnlmaa
open Go.NB (Dk val)
open Go.NB.Crc

def badP (pl e many i : Nat) (b : List UInt8) : Prop := 45 < (b.getD 10 0).toNat ∨ (i + 1 < many ∧ (b.getD 10 0).toNat < 45) ∨ (0 < i ∧ (b.getD 10 0).toNat = 0) ∨ rightB b = false ∨ num4 b ≠ e ∨ num4 (b.drop 4) ≠ pl + 1 ∨ (b.getD 8 0).toNat ≠ i ∨ (b.getD 9 0).toNat ≠ many
instance (pl e many i : Nat) (b : List UInt8) : Decidable (badP pl e many i b) := by unfold badP; infer_instance
/-- The loop: n parts from the i-th on. -/
def tkR (R : List (List UInt8)) (at_ pl e many : Nat) : Nat → Nat → Option (List UInt8)
  | 0, _ => some []
  | n + 1, i =>
    match R[at_ + i]? with
    | none => none
    | some b => if badP pl e many i b then none else (tkR R at_ pl e many n (i + 1)).map ((b.drop 11).take (b.getD 10 0).toNat ++ ·)
def takeR (R : List (List UInt8)) (at_ pl ep : Nat) : List UInt8 × Nat × Nat :=
  match R[at_]? with
  | none => ([], 0, 0)
  | some b =>
    if rightB b = false ∨ (b.getD 9 0).toNat < 1 ∨ 92 < (b.getD 9 0).toNat then ([], 0, 0)
    else if num4 b < ep ∨ R.length < at_ + (b.getD 9 0).toNat then ([], 0, 0)
    else match tkR R at_ pl (num4 b) (b.getD 9 0).toNat (b.getD 9 0).toNat 0 with
      | none => ([], 0, 0)
      | some s => (s, (b.getD 9 0).toNat, num4 b)
def takeM (R : List (List UInt8)) (at_ pl ep : Nat) : List UInt8 × Nat × Nat := (recordM R at_ pl ep).getD ([], 0, 0)

theorem lk_some {R : List (List UInt8)} {i : Nat} {b : List UInt8} (h : R[i]? = some b) (h1 : rightB b = true) (h2 : (b.getD 10 0).toNat ≤ 45) : lk R i = some (bkOf b) := by
  unfold lk readB; rw [h, Option.bind_some, if_pos ⟨h1, h2⟩]
theorem lk_none {R : List (List UInt8)} {i : Nat} {b : List UInt8} (h : R[i]? = some b) (h1 : ¬ (rightB b = true ∧ (b.getD 10 0).toNat ≤ 45)) : lk R i = none := by
  unfold lk readB; rw [h, Option.bind_some, if_neg h1]
theorem lk_out {R : List (List UInt8)} {i : Nat} (h : R[i]? = none) : lk R i = none := by unfold lk; rw [h]; rfl
theorem bk_len {b : List UInt8} (h64 : b.length = 64) (h : (b.getD 10 0).toNat ≤ 45) : (bkOf b).bs = (b.drop 11).take (b.getD 10 0).toNat ∧ (bkOf b).bs.length = (b.getD 10 0).toNat := by
  unfold bkOf
  simp only
  rw [Nat.min_eq_left h]
  exact ⟨rfl, by rw [List.length_take, List.length_drop]; omega⟩

theorem gath_tk {R : List (List UInt8)} (h64 : ∀ b ∈ R, b.length = 64) {at_ pl : Nat} {f : Bk} (hpl : f.pl = pl + 1) : ∀ n i, i + n = f.pn → gath R at_ f n i = tkR R at_ pl f.ep f.pn n i
  | 0, _, _ => rfl
  | n + 1, i, hi => by
    rw [gath, tkR]
    cases hb : R[at_ + i]? with
    | none => rw [lk_out hb]
    | some b =>
      have hlen := h64 b (List.mem_of_getElem? hb)
      simp only
      by_cases hr : rightB b = true ∧ (b.getD 10 0).toNat ≤ 45
      · obtain ⟨e1, e2⟩ := bk_len hlen hr.2
        rw [lk_some hb hr.1 hr.2]
        simp only
        rw [e1] at e2
        by_cases hc : (bkOf b).pl ≠ f.pl ∨ (bkOf b).ep ≠ f.ep ∨ (bkOf b).pt ≠ i ∨ (bkOf b).pn ≠ f.pn
        · rw [if_pos hc, if_pos]
          unfold badP
          have hc' : num4 (b.drop 4) ≠ f.pl ∨ num4 b ≠ f.ep ∨ (b.getD 8 0).toNat ≠ i ∨ (b.getD 9 0).toNat ≠ f.pn := hc
          rw [hpl] at hc'
          rcases hc' with h | h | h | h
          · exact .inr (.inr (.inr (.inr (.inr (.inl h)))))
          · exact .inr (.inr (.inr (.inr (.inl h))))
          · exact .inr (.inr (.inr (.inr (.inr (.inr (.inl h))))))
          · exact .inr (.inr (.inr (.inr (.inr (.inr (.inr h))))))
        · rw [if_neg hc, e1, e2]
          have hc' : ¬ (num4 (b.drop 4) ≠ f.pl ∨ num4 b ≠ f.ep ∨ (b.getD 8 0).toNat ≠ i ∨ (b.getD 9 0).toNat ≠ f.pn) := hc
          rw [hpl] at hc'
          by_cases hd : (i + 1 < f.pn ∧ (b.getD 10 0).toNat < 45) ∨ (i + 1 = f.pn ∧ (b.getD 10 0).toNat = 0 ∧ 0 < i)
          · rw [if_pos hd, if_pos]
            unfold badP
            rcases hd with hd | hd
            · exact .inr (.inl hd)
            · exact .inr (.inr (.inl ⟨hd.2.2, hd.2.1⟩))
          · rw [if_neg hd, if_neg, gath_tk h64 hpl n (i + 1) (by omega)]
            unfold badP
            rintro (h | h | h | h | h | h | h | h)
            · omega
            · exact hd (.inl h)
            · have := hr.2
              by_cases hx : i + 1 < f.pn
              · exact hd (.inl ⟨hx, by omega⟩)
              · exact hd (.inr ⟨by omega, h.2, h.1⟩)
            · rw [hr.1] at h; cases h
            · exact hc' (.inr (.inl h))
            · exact hc' (.inl h)
            · exact hc' (.inr (.inr (.inl h)))
            · exact hc' (.inr (.inr (.inr h)))
      · rw [lk_none hb hr, if_pos]
        unfold badP
        by_cases hx : rightB b = true
        · exact .inl (by have : ¬ (b.getD 10 0).toNat ≤ 45 := fun h => hr ⟨hx, h⟩; omega)
        · exact .inr (.inr (.inr (.inl (by simpa using hx))))
theorem take_is {R : List (List UInt8)} (h64 : ∀ b ∈ R, b.length = 64) (at_ pl ep : Nat) : takeR R at_ pl ep = takeM R at_ pl ep := by
  unfold takeR takeM
  cases hb : R[at_]? with
  | none => unfold recordM; rw [lk_out hb]; rfl
  | some b =>
    have hlen := h64 b (List.mem_of_getElem? hb)
    simp only
    -- what is found is as it should be
    have hfind : ∀ s pn x, recordM R at_ pl ep = some (s, pn, x) → rightB b = true ∧ (b.getD 10 0).toNat ≤ 45 ∧ 1 ≤ (b.getD 9 0).toNat ∧ (b.getD 9 0).toNat ≤ 92 ∧ ep ≤ num4 b ∧ at_ + (b.getD 9 0).toNat ≤ R.length ∧ pn = (b.getD 9 0).toNat ∧ x = num4 b ∧ tkR R at_ pl (num4 b) (b.getD 9 0).toNat (b.getD 9 0).toNat 0 = some s := fun s pn x hr => by
      obtain ⟨p1, p2, p3, p4, f, hf, p5, p6, p7, p8, hg⟩ := record_in hr
      by_cases hx : rightB b = true ∧ (b.getD 10 0).toNat ≤ 45
      · rw [lk_some hb hx.1 hx.2] at hf
        cases hf
        have e9 : (bkOf b).pn = (b.getD 9 0).toNat := rfl
        have e4 : (bkOf b).ep = num4 b := rfl
        rw [← p6] at hg
        rw [gath_tk h64 p7 _ 0 (by omega), e4, e9] at hg
        rw [e9] at p6
        rw [e4] at p5
        exact ⟨hx.1, hx.2, by omega, by omega, by omega, by omega, by omega, by omega, hg⟩
      · rw [lk_none hb hx] at hf; cases hf
    cases hrec : recordM R at_ pl ep with
    | some q =>
      obtain ⟨s, pn, x⟩ := q
      obtain ⟨h1, h2, h3, h4, h5, h6, h7, h8, h9⟩ := hfind s pn x hrec
      have hc0 : ¬ (rightB b = false ∨ (b.getD 9 0).toNat < 1 ∨ 92 < (b.getD 9 0).toNat) := by
        rintro (h | h | h)
        · rw [h1] at h; cases h
        · omega
        · omega
      rw [if_neg hc0, if_neg (by omega), h9]
      simp only [Option.getD_some]
      rw [h7, h8]
    | none =>
      simp only [Option.getD_none]
      by_cases hc1 : rightB b = false ∨ (b.getD 9 0).toNat < 1 ∨ 92 < (b.getD 9 0).toNat
      · rw [if_pos hc1]
      rw [if_neg hc1]
      by_cases hc2 : num4 b < ep ∨ R.length < at_ + (b.getD 9 0).toNat
      · rw [if_pos hc2]
      rw [if_neg hc2]
      cases ht : tkR R at_ pl (num4 b) (b.getD 9 0).toNat (b.getD 9 0).toNat 0 with
      | none => rfl
      | some s =>
        exfalso
        have hp : ∃ k, (b.getD 9 0).toNat = k + 1 := ⟨(b.getD 9 0).toNat - 1, by omega⟩
        obtain ⟨k, hk⟩ := hp
        have ht0 := ht
        rw [show tkR R at_ pl (num4 b) (b.getD 9 0).toNat (b.getD 9 0).toNat 0 = tkR R at_ pl (num4 b) (b.getD 9 0).toNat (k + 1) 0 by rw [hk], tkR, Nat.add_zero, hb] at ht0
        simp only at ht0
        by_cases hbad : badP pl (num4 b) (b.getD 9 0).toNat 0 b
        · rw [if_pos hbad] at ht0; cases ht0
        unfold badP at hbad
        have hr1 : rightB b = true := by
          cases h : rightB b with
          | true => rfl
          | false => exact absurd (.inl h) hc1
        have hr2 : (b.getD 10 0).toNat ≤ 45 := by
          apply Classical.byContradiction
          intro h
          exact hbad (.inl (by omega))
        have hpl : (bkOf b).pl = pl + 1 := by
          apply Classical.byContradiction
          intro h
          exact hbad (.inr (.inr (.inr (.inr (.inr (.inl h))))))
        have hpt : (bkOf b).pt = 0 := by
          apply Classical.byContradiction
          intro h
          exact hbad (.inr (.inr (.inr (.inr (.inr (.inr (.inl h)))))))
        have : recordM R at_ pl ep = some (s, (b.getD 9 0).toNat, num4 b) := by
          unfold recordM
          rw [lk_some hb hr1 hr2]
          simp only
          have e9 : (bkOf b).pn = (b.getD 9 0).toNat := rfl
          have e4 : (bkOf b).ep = num4 b := rfl
          rw [if_neg (by rw [hpl, hpt, e9, e4]; omega), gath_tk h64 hpl _ 0 (by omega), e4, e9, ht]
          rfl
        rw [hrec] at this; cases this
/-- The epoch that is opened with, block by block. -/
theorem top_step (R : List (List UInt8)) (b : List UInt8) : topM (R ++ [b]) = max (topM R) (max (num4 b) (num4 (b.drop 60))) := by
  unfold topM; rw [List.foldl_append]; rfl
end Go.Proofs.Ytmgkaoenjnnlmaa
namespace Go.Proofs.Ytmgkaoenjnnlmaa
open Go.RowKit
open Go.NB.Crc
open Go.NB (Rd Dk Kp val)

theorem takeR_out {R : List (List UInt8)} {at_ pl ep : Nat} (h : ¬ at_ < R.length) : takeR R at_ pl ep = ([], 0, 0) := by
  unfold takeR; rw [List.getElem?_eq_none (by omega)]
theorem takeR_no1 {R : List (List UInt8)} {at_ pl ep : Nat} {b : List UInt8} (hb : R[at_]? = some b) (h : rightB b = false ∨ (b.getD 9 0).toNat < 1 ∨ 92 < (b.getD 9 0).toNat) : takeR R at_ pl ep = ([], 0, 0) := by
  unfold takeR; rw [hb]; simp only; rw [if_pos h]
theorem takeR_no2 {R : List (List UInt8)} {at_ pl ep : Nat} {b : List UInt8} (hb : R[at_]? = some b) (h : num4 b < ep ∨ R.length < at_ + (b.getD 9 0).toNat) : takeR R at_ pl ep = ([], 0, 0) := by
  unfold takeR; rw [hb]; simp only
  by_cases hc : rightB b = false ∨ (b.getD 9 0).toNat < 1 ∨ 92 < (b.getD 9 0).toNat
  · rw [if_pos hc]
  · rw [if_neg hc, if_pos h]
theorem takeR_go {R : List (List UInt8)} {at_ pl ep : Nat} {b : List UInt8} (hb : R[at_]? = some b) (h1 : rightB b = true) (h2 : 1 ≤ (b.getD 9 0).toNat) (h3 : (b.getD 9 0).toNat ≤ 92) (h4 : ¬ num4 b < ep) (h5 : ¬ R.length < at_ + (b.getD 9 0).toNat) :
    (tkR R at_ pl (num4 b) (b.getD 9 0).toNat (b.getD 9 0).toNat 0 = none → takeR R at_ pl ep = ([], 0, 0)) ∧ ∀ s, tkR R at_ pl (num4 b) (b.getD 9 0).toNat (b.getD 9 0).toNat 0 = some s → takeR R at_ pl ep = (s, (b.getD 9 0).toNat, num4 b) := by
  have hc0 : ¬ (rightB b = false ∨ (b.getD 9 0).toNat < 1 ∨ 92 < (b.getD 9 0).toNat) := by
    rintro (h | h | h)
    · rw [h1] at h; cases h
    · omega
    · omega
  have hc1 : ¬ (num4 b < ep ∨ R.length < at_ + (b.getD 9 0).toNat) := by omega
  refine ⟨fun ht => ?_, fun s ht => ?_⟩ <;>
  · unfold takeR; rw [hb]; simp only
    rw [if_neg hc0, if_neg hc1, ht]
theorem tk_bad {R : List (List UInt8)} {at_ pl e many n i : Nat} {b : List UInt8} (hb : R[at_ + i]? = some b) (hn : i < many) (hm : n = many - i) (h : badP pl e many i b) : tkR R at_ pl e many n i = none := by
  obtain ⟨m, rfl⟩ : ∃ m, n = m + 1 := ⟨n - 1, by omega⟩
  rw [tkR, hb]; simp only; rw [if_pos h]
theorem tk_go {R : List (List UInt8)} {at_ pl e many i : Nat} {b : List UInt8} (hb : R[at_ + i]? = some b) (hn : i < many) (h : ¬ badP pl e many i b) : tkR R at_ pl e many (many - i) i = (tkR R at_ pl e many (many - (i + 1)) (i + 1)).map ((b.drop 11).take (b.getD 10 0).toNat ++ ·) := by
  obtain ⟨m, hm⟩ : ∃ m, many - i = m + 1 := ⟨many - i - 1, by omega⟩
  rw [hm, show many - (i + 1) = m by omega, tkR, hb]; simp only; rw [if_neg h]
theorem blk_slice (b : List UInt8) (n : Nat) : (b.take (11 + n)).drop 11 = (b.drop 11).take n := by rw [List.drop_take]; congr 1; omega
theorem getD_at (b : List UInt8) (k : Nat) (hk : k < b.length) : ∀ h, (ByteArray.mk b.toArray)[k]'h = b.getD k 0 := fun h => by
  simp [List.getD, List.getElem?_eq_getElem hk, ByteArray.getElem_eq_getElem_data]

set_option maxRecDepth 100000 in
set_option maxHeartbeats 16000000 in
theorem rtake_any (w : World) (a : Option Addr) (c : Nat) (R : List (List UInt8)) (h : Rd 1 w a R.length c (strsL R)) (h64 : ∀ b ∈ R, b.length = 64) (hn : R.length ≤ 65536) (at_ pl ep : Nat) (hat : at_ ≤ 100000) (hpl : pl ≤ 100000) :
    Calls Try.prog 46 #[.slice a R.length c, .int .i64 (at_ : Int), .int .i64 (pl : Int), .int .u64 (ep : Int)] w fun e w' => e = .returned (.tuple #[.string ⟨(takeM R at_ pl ep).1.toArray⟩, .int .i64 ((takeM R at_ pl ep).2.1 : Int), .int .u64 ((takeM R at_ pl ep).2.2 : Int)]) ∧ Below w.heap.size w w' := by
  rw [← take_is h64]
  obtain ⟨Q, hQ⟩ : ∃ Q, takeR R at_ pl ep = Q := ⟨_, rfl⟩
  rw [hQ]
  have HQ0 := Go.Lib.hid hQ
  clear hQ
  have hbd := h.bound
  obtain ⟨n, hnl⟩ : ∃ n, R.length = n := ⟨_, rfl⟩
  rw [hnl] at h hn hbd ⊢
  by_cases hlt : at_ < n
  case neg =>
    have hi : ¬ (at_ : Int) < (n : Int) := by omega
    have hge : (n : Int) ≤ (at_ : Int) := by omega
    clear hi
    go_enter Try.func46, Try.ntmps46
    have hq : Q = ([], 0, 0) := by rw [← HQ0.out]; exact takeR_out (by omega)
    have HQ := Go.Lib.hid hq
    clear hq hlt
    go_wp2_with fail
    refine bodyPost_ret (v := .tuple #[.string (ByteArray.mk #[]), .int .i64 0, .int .u64 0]) (by simp [results, Try.results46, go_sem]) rfl ?_
    rw [HQ.out]
    exact ⟨rfl, Below.refl _ _⟩
  have hi : (at_ : Int) < (n : Int) := by omega
  have hi' : ¬ (n : Int) ≤ (at_ : Int) := by omega
  obtain ⟨b, hb⟩ : ∃ b, R[at_]? = some b := ⟨_, List.getElem?_eq_getElem (by omega)⟩
  have hbl := h64 b (List.mem_of_getElem? hb)
  have hs0 : (strsL R)[at_]? = some (.string ⟨b.toArray⟩) := by rw [strsL, List.getElem?_map, hb]; rfl
  have hr1 := fun w => rright_blk w b hbl
  have hn1 := fun w => rnum4_any w b (by omega)
  have hg9 := getD_at b 9 (by omega)
  have HB := Go.Lib.hid hb
  have hrt : rightB b = true ∨ rightB b = false := by cases rightB b <;> simp
  obtain ⟨V, hV⟩ : ∃ V, rightB b = V := ⟨_, rfl⟩
  obtain ⟨E, hE⟩ : ∃ E, num4 b = E := ⟨_, rfl⟩
  obtain ⟨pn, hpn⟩ : ∃ pn, (b.getD 9 0).toNat = pn := ⟨_, rfl⟩
  rw [hV] at hr1
  rw [hE] at hn1
  have hpn8 : pn < 256 := by rw [← hpn]; exact (b.getD 9 0).toNat_lt
  have HV := Go.Lib.hid hV; have HE := Go.Lib.hid hE; have HPN := Go.Lib.hid hpn
  have HR1 := Go.Lib.hid hr1; have HN1 := Go.Lib.hid hn1
  have HG9 := Go.Lib.hid hg9
  have H64 := Go.Lib.hid h64; have HNL := Go.Lib.hid hnl
  obtain ⟨a1, o1, rfl, hc1⟩ := Rd.pos h (by omega)
  have q0 := hc1 _ _ hs0
  clear hr1 hn1 hb hV hE hrt hnl h64 hc1 hs0 hg9 hpn
  have g9 : ∀ h, (ByteArray.mk b.toArray)[9]'h = b.getD 9 0 := HG9.out
  generalize b.getD 9 0 = y9 at g9
  go_enter Try.func46, Try.ntmps46
  go_wp2_with fail
  refine (HR1.out _).mono ?_
  rintro e w1 ⟨rfl, hb1⟩
  have h1 := Rd.below h hb1
  obtain ⟨a2, o2, e2, hc2⟩ := Rd.pos h1 (by omega)
  cases e2
  have hs1 : (strsL R)[at_]? = some (.string ⟨b.toArray⟩) := by rw [strsL, List.getElem?_map, HB.out]; rfl
  have q1 := hc2 _ _ hs1
  clear hc2 hs1 q0 h HR1
  have hy : y9.toNat = pn := by rw [← HPN.out, ← g9 (by show 9 < b.toArray.size; simp; omega)]; exact congrArg UInt8.toNat (HG9.out _)
  cases V with
  | false =>
    have hq : Q = ([], 0, 0) := by
      rw [← HQ0.out]; exact takeR_no1 HB.out (.inl HV.out)
    have HQ := Go.Lib.hid hq
    clear hq
    go_wp2_with fail
    refine bodyPost_ret (v := .tuple #[.string (ByteArray.mk #[]), .int .i64 0, .int .u64 0]) (by simp [results, Try.results46, go_sem]) rfl ?_
    rw [HQ.out]
    exact ⟨rfl, hb1⟩
  | true =>
  by_cases hp1 : pn < 1
  · obtain rfl : pn = 0 := by omega
    have hc1 : (y9.toNat : Int) < 1 := by omega
    have hc2 : decide (y9.toNat < 1) = true := by simp; omega
    have hc3 : y9.toNat = 0 := by omega
    have hc4 : y9 = 0 := UInt8.toNat_inj.1 (by simpa using hc3)
    have hq : Q = ([], 0, 0) := by
      rw [← HQ0.out]; exact takeR_no1 HB.out (.inr (.inl (by rw [HPN.out]; omega)))
    have HQ := Go.Lib.hid hq
    clear hq
    go_wp2_with fail
    refine bodyPost_ret (v := .tuple #[.string (ByteArray.mk #[]), .int .i64 0, .int .u64 0]) (by simp [results, Try.results46, go_sem]) rfl ?_
    rw [HQ.out]
    exact ⟨rfl, hb1⟩
  have hd1 : ¬ (y9.toNat : Int) < 1 := by omega
  have hd2 : decide (y9.toNat < 1) = false := by simp; omega
  have hd3 : ¬ y9.toNat = 0 := by omega
  have hd4 : decide (y9.toNat = 0) = false := by simp; omega
  by_cases hp2 : 92 < pn
  · have hc1 : (92 : Int) < (y9.toNat : Int) := by omega
    have hc2 : decide (92 < y9.toNat) = true := by simp; omega
    have hc3 : 92 < y9.toNat := by omega
    have hq : Q = ([], 0, 0) := by
      rw [← HQ0.out]; exact takeR_no1 HB.out (.inr (.inr (by rw [HPN.out]; omega)))
    have HQ := Go.Lib.hid hq
    clear hq
    go_wp2_with fail
    refine bodyPost_ret (v := .tuple #[.string (ByteArray.mk #[]), .int .i64 0, .int .u64 0]) (by simp [results, Try.results46, go_sem]) rfl ?_
    rw [HQ.out]
    exact ⟨rfl, hb1⟩
  have he1 : ¬ (92 : Int) < (y9.toNat : Int) := by omega
  have he2 : decide (92 < y9.toNat) = false := by simp; omega
  have he3 : ¬ 92 < y9.toNat := by omega
  have hwy : IntKind.i64.wrap (y9.toNat : Int) = (y9.toNat : Int) := IntWalk.i64_in _ (by omega)
  have hwy2 : wrap64 (y9.toNat : Int) = (y9.toNat : Int) := by unfold wrap64; omega
  go_wp2_with fail
  refine (HN1.out _).mono ?_
  rintro e w2 ⟨rfl, hb2⟩
  have B2 := bel' hb1 hb2 hb1.size
  have h2 := Rd.below h1 hb2
  obtain ⟨a3, o3, e3, hc3⟩ := Rd.pos h2 (by omega)
  cases e3
  clear q1 h1 hb2 HN1 hc3
  by_cases hee : E < ep
  · have hc1 : (E : Int) < (ep : Int) := by omega
    have hc2 : decide (E < ep) = true := by simp; omega
    have hq : Q = ([], 0, 0) := by
      rw [← HQ0.out]; exact takeR_no2 HB.out (.inl (by rw [HE.out]; exact hee))
    have HQ := Go.Lib.hid hq
    clear hq
    go_wp2_with fail
    refine bodyPost_ret (v := .tuple #[.string (ByteArray.mk #[]), .int .i64 0, .int .u64 0]) (by simp [results, Try.results46, go_sem]) rfl ?_
    rw [HQ.out]
    exact ⟨rfl, B2⟩
  have hn1 : ¬ (E : Int) < (ep : Int) := by omega
  have hn2 : decide (E < ep) = false := by simp; omega
  by_cases hfit : n < at_ + pn
  · have hc1 : (n : Int) < (at_ : Int) + (pn : Int) := by omega
    have hc2 : decide (n < at_ + pn) = true := by simp; omega
    have hq : Q = ([], 0, 0) := by
      rw [← HQ0.out]; exact takeR_no2 HB.out (.inr (by rw [HPN.out, HNL.out]; exact hfit))
    have HQ := Go.Lib.hid hq
    clear hq
    go_wp2_with fail
    refine bodyPost_ret (v := .tuple #[.string (ByteArray.mk #[]), .int .i64 0, .int .u64 0]) (by simp [results, Try.results46, go_sem]) rfl ?_
    rw [HQ.out]
    exact ⟨rfl, B2⟩
  have hf1 : ¬ (n : Int) < (at_ : Int) + (pn : Int) := by omega
  have hf2 : decide (n < at_ + pn) = false := by simp; omega
  obtain ⟨hgo1, hgo2⟩ := takeR_go (pl := pl) (ep := ep) HB.out HV.out (by rw [HPN.out]; omega) (by rw [HPN.out]; omega) (by rw [HE.out]; exact hee) (by rw [HPN.out, HNL.out]; exact hfit)
  rw [HPN.out, HE.out, HQ0.out] at hgo1 hgo2
  have HGO1 := Go.Lib.hid hgo1; have HGO2 := Go.Lib.hid hgo2
  clear hgo1 hgo2 g9 hy hd1 hd2 hd3 hd4 he1 he2 he3 hwy hwy2 HV HE HPN HQ0 HG9
  go_wp2_with fail
  go_loopw [14, 15] (fun x y wr => ∃ (i : Nat) (S : List UInt8), i ≤ pn ∧ x = .string ⟨S.toArray⟩ ∧ y = .int .i64 (i : Int) ∧ S.length ≤ 45 * i ∧ tkR R at_ pl E pn pn 0 = (tkR R at_ pl E pn (pn - i) i).map (S ++ ·) ∧ Below w.heap.size w wr ∧ Rd 1 wr (some ⟨a1, o1, none⟩) n c (strsL R)) (fun _ y _ => pn - (intOf y).toNat)
  case atStart => exact ⟨0, [], by omega, rfl, rfl, by simp, by simp, B2, h2⟩
  case round =>
    clear B2 h2
    obtain ⟨i, S, hi2, rfl, rfl, hS, hrec, B, h⟩ := hrel
    have HREC := Go.Lib.hid hrec
    clear hrec
    by_cases hil : i < pn
    case neg =>
      have hii : ¬ (i : Int) < (pn : Int) := by omega
      have hr : tkR R at_ pl E pn pn 0 = some S := by rw [HREC.out, show pn - i = 0 by omega]; simp [tkR]
      have hq := HGO2.out S hr
      have HQ := Go.Lib.hid hq
      clear hr hq
      go_wp2_with fail
      refine bodyPost_ret (v := .tuple #[.string ⟨S.toArray⟩, .int .i64 (pn : Int), .int .u64 (E : Int)]) (by simp [results, Try.results46, go_sem]) rfl ?_
      rw [HQ.out]
      exact ⟨rfl, B⟩
    have hii : (i : Int) < (pn : Int) := by omega
    obtain ⟨z, hz⟩ : ∃ z, R[at_ + i]? = some z := ⟨_, List.getElem?_eq_getElem (by have := HNL.out; omega)⟩
    have hzl := H64.out z (List.mem_of_getElem? hz)
    have hsz : (strsL R)[at_ + i]? = some (.string ⟨z.toArray⟩) := by rw [strsL, List.getElem?_map, hz]; rfl
    obtain ⟨a4, o4, e4, hc4⟩ := Rd.pos h (by omega)
    cases e4
    have q0 := hc4 _ _ hsz
    have hx1 : (at_ : Int) + (i : Int) < (n : Int) := by omega
    have hx2 : ¬ (n : Int) ≤ (at_ : Int) + (i : Int) := by omega
    obtain ⟨y10, hy10⟩ : ∃ y, z.getD 10 0 = y := ⟨_, rfl⟩
    obtain ⟨y8, hy8⟩ : ∃ y, z.getD 8 0 = y := ⟨_, rfl⟩
    obtain ⟨y9, hy9⟩ : ∃ y, z.getD 9 0 = y := ⟨_, rfl⟩
    have g10 := getD_at z 10 (by omega); have g8 := getD_at z 8 (by omega); have g9 := getD_at z 9 (by omega)
    rw [hy10] at g10; rw [hy8] at g8; rw [hy9] at g9
    obtain ⟨V, hV⟩ : ∃ V, rightB z = V := ⟨_, rfl⟩
    obtain ⟨E1, hE1⟩ : ∃ E, num4 z = E := ⟨_, rfl⟩
    obtain ⟨P1, hP1⟩ : ∃ E, num4 (z.drop 4) = E := ⟨_, rfl⟩
    have hbad : ∀ (_ : badP pl E pn i z), Q = ([], 0, 0) := fun h => HGO1.out (by rw [HREC.out, tk_bad hz hil rfl h]; rfl)
    have hgd := fun h => tk_go (pl := pl) (e := E) hz hil h
    have hbp : badP pl E pn i z ↔ (45 < y10.toNat ∨ (i + 1 < pn ∧ y10.toNat < 45) ∨ (0 < i ∧ y10.toNat = 0) ∨ V = false ∨ E1 ≠ E ∨ P1 ≠ pl + 1 ∨ y8.toNat ≠ i ∨ y9.toNat ≠ pn) := by
      unfold badP; rw [hy10, hy8, hy9, hV, hE1, hP1]
    have hr1 := fun w => rright_blk w z hzl
    have hn1 := fun w => rnum4_any w z (by omega)
    have hn2' := fun w => rnum4_any w (z.drop 4) (by rw [List.length_drop]; omega)
    rw [hV] at hr1
    rw [hE1] at hn1
    rw [hP1] at hn2'
    have HR1 := Go.Lib.hid hr1; have HN1 := Go.Lib.hid hn1; have HN2 := Go.Lib.hid hn2'
    have HBAD := Go.Lib.hid hbad; have HGD := Go.Lib.hid hgd; have HBP := Go.Lib.hid hbp
    have HZ := Go.Lib.hid hz; have HSZ := Go.Lib.hid hsz; have HY10 := Go.Lib.hid hy10
    clear hr1 hn1 hn2' hbad hgd hbp hz hsz hy10 hy8 hy9 hV hE1 hP1 hc4 hf1 hf2
    have hz64 : z.take 64 = z := List.take_of_length_le (by omega)
    have l10 := y10.toNat_lt; have l8 := y8.toNat_lt; have l9 := y9.toNat_lt
    obtain ⟨N10, hN10⟩ : ∃ N, y10.toNat = N := ⟨_, rfl⟩
    obtain ⟨N8, hN8⟩ : ∃ N, y8.toNat = N := ⟨_, rfl⟩
    obtain ⟨N9, hN9⟩ : ∃ N, y9.toNat = N := ⟨_, rfl⟩
    rw [hN10] at l10; rw [hN8] at l8; rw [hN9] at l9
    have HN10 := Go.Lib.hid hN10
    have w10 : IntKind.i64.wrap (N10 : Int) = (N10 : Int) := IntWalk.i64_in _ (by omega)
    have w8 : IntKind.i64.wrap (N8 : Int) = (N8 : Int) := IntWalk.i64_in _ (by omega)
    have w9' : IntKind.i64.wrap (N9 : Int) = (N9 : Int) := IntWalk.i64_in _ (by omega)
    by_cases c1 : 45 < N10
    · have c1i : (45 : Int) < (N10 : Int) := by omega
      have c1d : decide (45 < N10) = true := by simp; omega
      have hq := HBAD.out (HBP.out.2 (.inl (by rw [HN10.out]; exact c1)))
      have HQ := Go.Lib.hid hq
      clear hq
      go_wp2_with fail
      refine bodyPost_ret (v := .tuple #[.string (ByteArray.mk #[]), .int .i64 0, .int .u64 0]) (by simp [results, Try.results46, go_sem]) rfl ?_
      rw [HQ.out]
      exact ⟨rfl, B⟩
    have c1i : ¬ (45 : Int) < (N10 : Int) := by omega
    have c1d : decide (45 < N10) = false := by simp; omega
    have hz11 : (11 : Int) + (N10 : Int) ≤ 64 := by omega
    have hz12 : ((11 : Int) + (N10 : Int)).toNat = 11 + N10 := by omega
    by_cases cA : i + 1 < pn
    · have cAi : (i : Int) < (pn : Int) - 1 := by omega
      have cAd : decide ((i : Int) < (pn : Int) - 1) = true := by simp; omega
      by_cases cB : N10 < 45
      · have cBi : (N10 : Int) < 45 := by omega
        have cBd : decide (N10 < 45) = true := by simp; omega
        have hq := HBAD.out (HBP.out.2 (.inr (.inl ⟨cA, by rw [HN10.out]; exact cB⟩)))
        have HQ := Go.Lib.hid hq
        clear hq
        go_wp2_with fail
        refine bodyPost_ret (v := .tuple #[.string (ByteArray.mk #[]), .int .i64 0, .int .u64 0]) (by simp [results, Try.results46, go_sem]) rfl ?_
        rw [HQ.out]
        exact ⟨rfl, B⟩
      have cBi : ¬ (N10 : Int) < 45 := by omega
      have cBd : decide (N10 < 45) = false := by simp; omega
      have cDi : ((N10 : Int) == 0) = false := by simp; omega
      have cDd : (N10 == 0) = false := by simp; omega
      by_cases cC : 0 < i
      · have cCi : (0 : Int) < (i : Int) := by omega
        have cCd : decide (0 < i) = true := by simp; omega
        go_wp2_with fail
        refine (HR1.out _).mono ?_
        rintro e w3 ⟨rfl, hb3⟩
        have B3 := bel' B hb3 B.size
        have h3 := Rd.below h hb3
        clear hb3 q0
        cases V with
        | false =>
          have hq := HBAD.out (HBP.out.2 (.inr (.inr (.inr (.inl rfl)))))
          have HQ := Go.Lib.hid hq
          clear hq
          go_wp2_with fail
          refine bodyPost_ret (v := .tuple #[.string (ByteArray.mk #[]), .int .i64 0, .int .u64 0]) (by simp [results, Try.results46, go_sem]) rfl ?_
          rw [HQ.out]
          exact ⟨rfl, B3⟩
        | true =>
        go_wp2_with fail
        refine (HN1.out _).mono ?_
        rintro e w4 ⟨rfl, hb4⟩
        have B4 := bel' B3 hb4 B3.size
        have h4 := Rd.below h3 hb4
        clear hb4 B3 h3
        by_cases c4 : E1 = E
        case neg =>
          have c4d : ((E1 : Int) != (E : Int)) = true := by simp; omega
          have c4e : (E1 == E) = false := beq_eq_false_iff_ne.2 c4
          have c4f : ¬ (E1 : Int) = (E : Int) := by omega
          have hq := HBAD.out (HBP.out.2 (.inr (.inr (.inr (.inr (.inl c4))))))
          have HQ := Go.Lib.hid hq
          clear hq
          go_wp2_with fail
          refine bodyPost_ret (v := .tuple #[.string (ByteArray.mk #[]), .int .i64 0, .int .u64 0]) (by simp [results, Try.results46, go_sem]) rfl ?_
          rw [HQ.out]
          exact ⟨rfl, B4⟩
        subst c4
        go_wp2_with fail
        refine (HN2.out _).mono ?_
        rintro e w5 ⟨rfl, hb5⟩
        have B5 := bel' B4 hb5 B4.size
        have h5 := Rd.below h4 hb5
        clear hb5 B4 h4
        have wpl : IntKind.u64.wrap (pl : Int) = (pl : Int) := IntWalk.u64_in _ ⟨by omega, by omega⟩
        have wpl1 : IntKind.u64.wrap ((pl : Int) + 1) = (pl : Int) + 1 := IntWalk.u64_in _ ⟨by omega, by omega⟩
        by_cases c5 : P1 = pl + 1
        case neg =>
          have c5d : ((P1 : Int) != (pl : Int) + 1) = true := by simp; omega
          have c5f : ¬ (P1 : Int) = (pl : Int) + 1 := by omega
          have hq := HBAD.out (HBP.out.2 (.inr (.inr (.inr (.inr (.inr (.inl c5)))))))
          have HQ := Go.Lib.hid hq
          clear hq
          go_wp2_with fail
          refine bodyPost_ret (v := .tuple #[.string (ByteArray.mk #[]), .int .i64 0, .int .u64 0]) (by simp [results, Try.results46, go_sem]) rfl ?_
          rw [HQ.out]
          exact ⟨rfl, B5⟩
        have c5d : ((P1 : Int) != (pl : Int) + 1) = false := by simp; omega
        by_cases c6 : N8 = i
        case neg =>
          have c6d : ((N8 : Int) != (i : Int)) = true := by simp; omega
          have c6f : ¬ (N8 : Int) = (i : Int) := by omega
          have hq := HBAD.out (HBP.out.2 (.inr (.inr (.inr (.inr (.inr (.inr (.inl (by rw [hN8]; exact c6)))))))))
          have HQ := Go.Lib.hid hq
          clear hq
          go_wp2_with fail
          refine bodyPost_ret (v := .tuple #[.string (ByteArray.mk #[]), .int .i64 0, .int .u64 0]) (by simp [results, Try.results46, go_sem]) rfl ?_
          rw [HQ.out]
          exact ⟨rfl, B5⟩
        have c6d : ((N8 : Int) != (i : Int)) = false := by simp; omega
        by_cases c7 : N9 = pn
        case neg =>
          have c7d : ((N9 : Int) != (pn : Int)) = true := by simp; omega
          have c7f : ¬ (N9 : Int) = (pn : Int) := by omega
          have hq := HBAD.out (HBP.out.2 (.inr (.inr (.inr (.inr (.inr (.inr (.inr ((by rw [hN9]; exact c7))))))))))
          have HQ := Go.Lib.hid hq
          clear hq
          go_wp2_with fail
          refine bodyPost_ret (v := .tuple #[.string (ByteArray.mk #[]), .int .i64 0, .int .u64 0]) (by simp [results, Try.results46, go_sem]) rfl ?_
          rw [HQ.out]
          exact ⟨rfl, B5⟩
        have c7d : ((N9 : Int) != (pn : Int)) = false := by simp; omega
        have hok : ¬ badP pl E1 pn i z := fun hb => by
          rcases HBP.out.1 hb with h | h | h | h | h | h | h | h
          · rw [HN10.out] at h; omega
          · rw [HN10.out] at h; omega
          · rw [HN10.out] at h; omega
          · cases h
          · exact h rfl
          · exact h c5
          · rw [hN8] at h; omega
          · rw [hN9] at h; omega
        have hstep := HGD.out hok
        have hcut : (z.take (11 + N10)).drop 11 = (z.drop 11).take N10 := blk_slice z N10
        rw [HY10.out, HN10.out] at hstep
        obtain ⟨pc, hpc⟩ : ∃ pc, (z.drop 11).take N10 = pc := ⟨_, rfl⟩
        have hpl' : pc.length ≤ 45 := by rw [← hpc, List.length_take]; omega
        rw [hpc] at hstep hcut
        have hcat : ¬ 9223372036854775807 < S.length + pc.length := by omega
        have hnext : tkR R at_ pl E1 pn pn 0 = (tkR R at_ pl E1 pn (pn - (i + 1)) (i + 1)).map ((S ++ pc) ++ ·) := by
          rw [HREC.out, hstep, Option.map_map]
          congr 1
          funext x
          simp
        have HNX := Go.Lib.hid hnext; have HCUT := Go.Lib.hid hcut
        clear hok hstep hcut hnext hpc
        go_wp2_with fail
        refine ⟨⟨i + 1, S ++ pc, by omega, ?_, by simp, by rw [List.length_append]; omega, HNX.out, B5, h5⟩, by simp [intOf]; omega⟩
        first
          | rw [HCUT.out]
          | (simp only [HCUT.out])
          | rfl
      · have cCi : ¬ (0 : Int) < (i : Int) := by omega
        have cCd : decide (0 < i) = false := by simp; omega
        go_wp2_with fail
        refine (HR1.out _).mono ?_
        rintro e w3 ⟨rfl, hb3⟩
        have B3 := bel' B hb3 B.size
        have h3 := Rd.below h hb3
        clear hb3 q0
        cases V with
        | false =>
          have hq := HBAD.out (HBP.out.2 (.inr (.inr (.inr (.inl rfl)))))
          have HQ := Go.Lib.hid hq
          clear hq
          go_wp2_with fail
          refine bodyPost_ret (v := .tuple #[.string (ByteArray.mk #[]), .int .i64 0, .int .u64 0]) (by simp [results, Try.results46, go_sem]) rfl ?_
          rw [HQ.out]
          exact ⟨rfl, B3⟩
        | true =>
        go_wp2_with fail
        refine (HN1.out _).mono ?_
        rintro e w4 ⟨rfl, hb4⟩
        have B4 := bel' B3 hb4 B3.size
        have h4 := Rd.below h3 hb4
        clear hb4 B3 h3
        by_cases c4 : E1 = E
        case neg =>
          have c4d : ((E1 : Int) != (E : Int)) = true := by simp; omega
          have c4e : (E1 == E) = false := beq_eq_false_iff_ne.2 c4
          have c4f : ¬ (E1 : Int) = (E : Int) := by omega
          have hq := HBAD.out (HBP.out.2 (.inr (.inr (.inr (.inr (.inl c4))))))
          have HQ := Go.Lib.hid hq
          clear hq
          go_wp2_with fail
          refine bodyPost_ret (v := .tuple #[.string (ByteArray.mk #[]), .int .i64 0, .int .u64 0]) (by simp [results, Try.results46, go_sem]) rfl ?_
          rw [HQ.out]
          exact ⟨rfl, B4⟩
        subst c4
        go_wp2_with fail
        refine (HN2.out _).mono ?_
        rintro e w5 ⟨rfl, hb5⟩
        have B5 := bel' B4 hb5 B4.size
        have h5 := Rd.below h4 hb5
        clear hb5 B4 h4
        have wpl : IntKind.u64.wrap (pl : Int) = (pl : Int) := IntWalk.u64_in _ ⟨by omega, by omega⟩
        have wpl1 : IntKind.u64.wrap ((pl : Int) + 1) = (pl : Int) + 1 := IntWalk.u64_in _ ⟨by omega, by omega⟩
        by_cases c5 : P1 = pl + 1
        case neg =>
          have c5d : ((P1 : Int) != (pl : Int) + 1) = true := by simp; omega
          have c5f : ¬ (P1 : Int) = (pl : Int) + 1 := by omega
          have hq := HBAD.out (HBP.out.2 (.inr (.inr (.inr (.inr (.inr (.inl c5)))))))
          have HQ := Go.Lib.hid hq
          clear hq
          go_wp2_with fail
          refine bodyPost_ret (v := .tuple #[.string (ByteArray.mk #[]), .int .i64 0, .int .u64 0]) (by simp [results, Try.results46, go_sem]) rfl ?_
          rw [HQ.out]
          exact ⟨rfl, B5⟩
        have c5d : ((P1 : Int) != (pl : Int) + 1) = false := by simp; omega
        by_cases c6 : N8 = i
        case neg =>
          have c6d : ((N8 : Int) != (i : Int)) = true := by simp; omega
          have c6f : ¬ (N8 : Int) = (i : Int) := by omega
          have hq := HBAD.out (HBP.out.2 (.inr (.inr (.inr (.inr (.inr (.inr (.inl (by rw [hN8]; exact c6)))))))))
          have HQ := Go.Lib.hid hq
          clear hq
          go_wp2_with fail
          refine bodyPost_ret (v := .tuple #[.string (ByteArray.mk #[]), .int .i64 0, .int .u64 0]) (by simp [results, Try.results46, go_sem]) rfl ?_
          rw [HQ.out]
          exact ⟨rfl, B5⟩
        have c6d : ((N8 : Int) != (i : Int)) = false := by simp; omega
        by_cases c7 : N9 = pn
        case neg =>
          have c7d : ((N9 : Int) != (pn : Int)) = true := by simp; omega
          have c7f : ¬ (N9 : Int) = (pn : Int) := by omega
          have hq := HBAD.out (HBP.out.2 (.inr (.inr (.inr (.inr (.inr (.inr (.inr ((by rw [hN9]; exact c7))))))))))
          have HQ := Go.Lib.hid hq
          clear hq
          go_wp2_with fail
          refine bodyPost_ret (v := .tuple #[.string (ByteArray.mk #[]), .int .i64 0, .int .u64 0]) (by simp [results, Try.results46, go_sem]) rfl ?_
          rw [HQ.out]
          exact ⟨rfl, B5⟩
        have c7d : ((N9 : Int) != (pn : Int)) = false := by simp; omega
        have hok : ¬ badP pl E1 pn i z := fun hb => by
          rcases HBP.out.1 hb with h | h | h | h | h | h | h | h
          · rw [HN10.out] at h; omega
          · rw [HN10.out] at h; omega
          · rw [HN10.out] at h; omega
          · cases h
          · exact h rfl
          · exact h c5
          · rw [hN8] at h; omega
          · rw [hN9] at h; omega
        have hstep := HGD.out hok
        have hcut : (z.take (11 + N10)).drop 11 = (z.drop 11).take N10 := blk_slice z N10
        rw [HY10.out, HN10.out] at hstep
        obtain ⟨pc, hpc⟩ : ∃ pc, (z.drop 11).take N10 = pc := ⟨_, rfl⟩
        have hpl' : pc.length ≤ 45 := by rw [← hpc, List.length_take]; omega
        rw [hpc] at hstep hcut
        have hcat : ¬ 9223372036854775807 < S.length + pc.length := by omega
        have hnext : tkR R at_ pl E1 pn pn 0 = (tkR R at_ pl E1 pn (pn - (i + 1)) (i + 1)).map ((S ++ pc) ++ ·) := by
          rw [HREC.out, hstep, Option.map_map]
          congr 1
          funext x
          simp
        have HNX := Go.Lib.hid hnext; have HCUT := Go.Lib.hid hcut
        clear hok hstep hcut hnext hpc
        go_wp2_with fail
        refine ⟨⟨i + 1, S ++ pc, by omega, ?_, by simp, by rw [List.length_append]; omega, HNX.out, B5, h5⟩, by simp [intOf]; omega⟩
        first
          | rw [HCUT.out]
          | (simp only [HCUT.out])
          | rfl
    · have cAi : ¬ (i : Int) < (pn : Int) - 1 := by omega
      have cAd : decide ((i : Int) < (pn : Int) - 1) = false := by simp; omega
      by_cases cC : 0 < i
      · have cCi : (0 : Int) < (i : Int) := by omega
        have cCd : decide (0 < i) = true := by simp; omega
        by_cases cD : N10 = 0
        · have cDi : ((N10 : Int) == 0) = true := by simp; omega
          have cDd : (N10 == 0) = true := by simp; omega
          have hq := HBAD.out (HBP.out.2 (.inr (.inr (.inl ⟨cC, by rw [HN10.out]; exact cD⟩))))
          have HQ := Go.Lib.hid hq
          clear hq
          go_wp2_with fail
          refine bodyPost_ret (v := .tuple #[.string (ByteArray.mk #[]), .int .i64 0, .int .u64 0]) (by simp [results, Try.results46, go_sem]) rfl ?_
          rw [HQ.out]
          exact ⟨rfl, B⟩
        have cDi : ((N10 : Int) == 0) = false := by simp; omega
        have cDd : (N10 == 0) = false := by simp; omega
        go_wp2_with fail
        refine (HR1.out _).mono ?_
        rintro e w3 ⟨rfl, hb3⟩
        have B3 := bel' B hb3 B.size
        have h3 := Rd.below h hb3
        clear hb3 q0
        cases V with
        | false =>
          have hq := HBAD.out (HBP.out.2 (.inr (.inr (.inr (.inl rfl)))))
          have HQ := Go.Lib.hid hq
          clear hq
          go_wp2_with fail
          refine bodyPost_ret (v := .tuple #[.string (ByteArray.mk #[]), .int .i64 0, .int .u64 0]) (by simp [results, Try.results46, go_sem]) rfl ?_
          rw [HQ.out]
          exact ⟨rfl, B3⟩
        | true =>
        go_wp2_with fail
        refine (HN1.out _).mono ?_
        rintro e w4 ⟨rfl, hb4⟩
        have B4 := bel' B3 hb4 B3.size
        have h4 := Rd.below h3 hb4
        clear hb4 B3 h3
        by_cases c4 : E1 = E
        case neg =>
          have c4d : ((E1 : Int) != (E : Int)) = true := by simp; omega
          have c4e : (E1 == E) = false := beq_eq_false_iff_ne.2 c4
          have c4f : ¬ (E1 : Int) = (E : Int) := by omega
          have hq := HBAD.out (HBP.out.2 (.inr (.inr (.inr (.inr (.inl c4))))))
          have HQ := Go.Lib.hid hq
          clear hq
          go_wp2_with fail
          refine bodyPost_ret (v := .tuple #[.string (ByteArray.mk #[]), .int .i64 0, .int .u64 0]) (by simp [results, Try.results46, go_sem]) rfl ?_
          rw [HQ.out]
          exact ⟨rfl, B4⟩
        subst c4
        go_wp2_with fail
        refine (HN2.out _).mono ?_
        rintro e w5 ⟨rfl, hb5⟩
        have B5 := bel' B4 hb5 B4.size
        have h5 := Rd.below h4 hb5
        clear hb5 B4 h4
        have wpl : IntKind.u64.wrap (pl : Int) = (pl : Int) := IntWalk.u64_in _ ⟨by omega, by omega⟩
        have wpl1 : IntKind.u64.wrap ((pl : Int) + 1) = (pl : Int) + 1 := IntWalk.u64_in _ ⟨by omega, by omega⟩
        by_cases c5 : P1 = pl + 1
        case neg =>
          have c5d : ((P1 : Int) != (pl : Int) + 1) = true := by simp; omega
          have c5f : ¬ (P1 : Int) = (pl : Int) + 1 := by omega
          have hq := HBAD.out (HBP.out.2 (.inr (.inr (.inr (.inr (.inr (.inl c5)))))))
          have HQ := Go.Lib.hid hq
          clear hq
          go_wp2_with fail
          refine bodyPost_ret (v := .tuple #[.string (ByteArray.mk #[]), .int .i64 0, .int .u64 0]) (by simp [results, Try.results46, go_sem]) rfl ?_
          rw [HQ.out]
          exact ⟨rfl, B5⟩
        have c5d : ((P1 : Int) != (pl : Int) + 1) = false := by simp; omega
        by_cases c6 : N8 = i
        case neg =>
          have c6d : ((N8 : Int) != (i : Int)) = true := by simp; omega
          have c6f : ¬ (N8 : Int) = (i : Int) := by omega
          have hq := HBAD.out (HBP.out.2 (.inr (.inr (.inr (.inr (.inr (.inr (.inl (by rw [hN8]; exact c6)))))))))
          have HQ := Go.Lib.hid hq
          clear hq
          go_wp2_with fail
          refine bodyPost_ret (v := .tuple #[.string (ByteArray.mk #[]), .int .i64 0, .int .u64 0]) (by simp [results, Try.results46, go_sem]) rfl ?_
          rw [HQ.out]
          exact ⟨rfl, B5⟩
        have c6d : ((N8 : Int) != (i : Int)) = false := by simp; omega
        by_cases c7 : N9 = pn
        case neg =>
          have c7d : ((N9 : Int) != (pn : Int)) = true := by simp; omega
          have c7f : ¬ (N9 : Int) = (pn : Int) := by omega
          have hq := HBAD.out (HBP.out.2 (.inr (.inr (.inr (.inr (.inr (.inr (.inr ((by rw [hN9]; exact c7))))))))))
          have HQ := Go.Lib.hid hq
          clear hq
          go_wp2_with fail
          refine bodyPost_ret (v := .tuple #[.string (ByteArray.mk #[]), .int .i64 0, .int .u64 0]) (by simp [results, Try.results46, go_sem]) rfl ?_
          rw [HQ.out]
          exact ⟨rfl, B5⟩
        have c7d : ((N9 : Int) != (pn : Int)) = false := by simp; omega
        have hok : ¬ badP pl E1 pn i z := fun hb => by
          rcases HBP.out.1 hb with h | h | h | h | h | h | h | h
          · rw [HN10.out] at h; omega
          · rw [HN10.out] at h; omega
          · rw [HN10.out] at h; omega
          · cases h
          · exact h rfl
          · exact h c5
          · rw [hN8] at h; omega
          · rw [hN9] at h; omega
        have hstep := HGD.out hok
        have hcut : (z.take (11 + N10)).drop 11 = (z.drop 11).take N10 := blk_slice z N10
        rw [HY10.out, HN10.out] at hstep
        obtain ⟨pc, hpc⟩ : ∃ pc, (z.drop 11).take N10 = pc := ⟨_, rfl⟩
        have hpl' : pc.length ≤ 45 := by rw [← hpc, List.length_take]; omega
        rw [hpc] at hstep hcut
        have hcat : ¬ 9223372036854775807 < S.length + pc.length := by omega
        have hnext : tkR R at_ pl E1 pn pn 0 = (tkR R at_ pl E1 pn (pn - (i + 1)) (i + 1)).map ((S ++ pc) ++ ·) := by
          rw [HREC.out, hstep, Option.map_map]
          congr 1
          funext x
          simp
        have HNX := Go.Lib.hid hnext; have HCUT := Go.Lib.hid hcut
        clear hok hstep hcut hnext hpc
        go_wp2_with fail
        refine ⟨⟨i + 1, S ++ pc, by omega, ?_, by simp, by rw [List.length_append]; omega, HNX.out, B5, h5⟩, by simp [intOf]; omega⟩
        first
          | rw [HCUT.out]
          | (simp only [HCUT.out])
          | rfl
      · have cCi : ¬ (0 : Int) < (i : Int) := by omega
        have cCd : decide (0 < i) = false := by simp; omega
        go_wp2_with fail
        refine (HR1.out _).mono ?_
        rintro e w3 ⟨rfl, hb3⟩
        have B3 := bel' B hb3 B.size
        have h3 := Rd.below h hb3
        clear hb3 q0
        cases V with
        | false =>
          have hq := HBAD.out (HBP.out.2 (.inr (.inr (.inr (.inl rfl)))))
          have HQ := Go.Lib.hid hq
          clear hq
          go_wp2_with fail
          refine bodyPost_ret (v := .tuple #[.string (ByteArray.mk #[]), .int .i64 0, .int .u64 0]) (by simp [results, Try.results46, go_sem]) rfl ?_
          rw [HQ.out]
          exact ⟨rfl, B3⟩
        | true =>
        go_wp2_with fail
        refine (HN1.out _).mono ?_
        rintro e w4 ⟨rfl, hb4⟩
        have B4 := bel' B3 hb4 B3.size
        have h4 := Rd.below h3 hb4
        clear hb4 B3 h3
        by_cases c4 : E1 = E
        case neg =>
          have c4d : ((E1 : Int) != (E : Int)) = true := by simp; omega
          have c4e : (E1 == E) = false := beq_eq_false_iff_ne.2 c4
          have c4f : ¬ (E1 : Int) = (E : Int) := by omega
          have hq := HBAD.out (HBP.out.2 (.inr (.inr (.inr (.inr (.inl c4))))))
          have HQ := Go.Lib.hid hq
          clear hq
          go_wp2_with fail
          refine bodyPost_ret (v := .tuple #[.string (ByteArray.mk #[]), .int .i64 0, .int .u64 0]) (by simp [results, Try.results46, go_sem]) rfl ?_
          rw [HQ.out]
          exact ⟨rfl, B4⟩
        subst c4
        go_wp2_with fail
        refine (HN2.out _).mono ?_
        rintro e w5 ⟨rfl, hb5⟩
        have B5 := bel' B4 hb5 B4.size
        have h5 := Rd.below h4 hb5
        clear hb5 B4 h4
        have wpl : IntKind.u64.wrap (pl : Int) = (pl : Int) := IntWalk.u64_in _ ⟨by omega, by omega⟩
        have wpl1 : IntKind.u64.wrap ((pl : Int) + 1) = (pl : Int) + 1 := IntWalk.u64_in _ ⟨by omega, by omega⟩
        by_cases c5 : P1 = pl + 1
        case neg =>
          have c5d : ((P1 : Int) != (pl : Int) + 1) = true := by simp; omega
          have c5f : ¬ (P1 : Int) = (pl : Int) + 1 := by omega
          have hq := HBAD.out (HBP.out.2 (.inr (.inr (.inr (.inr (.inr (.inl c5)))))))
          have HQ := Go.Lib.hid hq
          clear hq
          go_wp2_with fail
          refine bodyPost_ret (v := .tuple #[.string (ByteArray.mk #[]), .int .i64 0, .int .u64 0]) (by simp [results, Try.results46, go_sem]) rfl ?_
          rw [HQ.out]
          exact ⟨rfl, B5⟩
        have c5d : ((P1 : Int) != (pl : Int) + 1) = false := by simp; omega
        by_cases c6 : N8 = i
        case neg =>
          have c6d : ((N8 : Int) != (i : Int)) = true := by simp; omega
          have c6f : ¬ (N8 : Int) = (i : Int) := by omega
          have hq := HBAD.out (HBP.out.2 (.inr (.inr (.inr (.inr (.inr (.inr (.inl (by rw [hN8]; exact c6)))))))))
          have HQ := Go.Lib.hid hq
          clear hq
          go_wp2_with fail
          refine bodyPost_ret (v := .tuple #[.string (ByteArray.mk #[]), .int .i64 0, .int .u64 0]) (by simp [results, Try.results46, go_sem]) rfl ?_
          rw [HQ.out]
          exact ⟨rfl, B5⟩
        have c6d : ((N8 : Int) != (i : Int)) = false := by simp; omega
        by_cases c7 : N9 = pn
        case neg =>
          have c7d : ((N9 : Int) != (pn : Int)) = true := by simp; omega
          have c7f : ¬ (N9 : Int) = (pn : Int) := by omega
          have hq := HBAD.out (HBP.out.2 (.inr (.inr (.inr (.inr (.inr (.inr (.inr ((by rw [hN9]; exact c7))))))))))
          have HQ := Go.Lib.hid hq
          clear hq
          go_wp2_with fail
          refine bodyPost_ret (v := .tuple #[.string (ByteArray.mk #[]), .int .i64 0, .int .u64 0]) (by simp [results, Try.results46, go_sem]) rfl ?_
          rw [HQ.out]
          exact ⟨rfl, B5⟩
        have c7d : ((N9 : Int) != (pn : Int)) = false := by simp; omega
        have hok : ¬ badP pl E1 pn i z := fun hb => by
          rcases HBP.out.1 hb with h | h | h | h | h | h | h | h
          · rw [HN10.out] at h; omega
          · rw [HN10.out] at h; omega
          · rw [HN10.out] at h; omega
          · cases h
          · exact h rfl
          · exact h c5
          · rw [hN8] at h; omega
          · rw [hN9] at h; omega
        have hstep := HGD.out hok
        have hcut : (z.take (11 + N10)).drop 11 = (z.drop 11).take N10 := blk_slice z N10
        rw [HY10.out, HN10.out] at hstep
        obtain ⟨pc, hpc⟩ : ∃ pc, (z.drop 11).take N10 = pc := ⟨_, rfl⟩
        have hpl' : pc.length ≤ 45 := by rw [← hpc, List.length_take]; omega
        rw [hpc] at hstep hcut
        have hcat : ¬ 9223372036854775807 < S.length + pc.length := by omega
        have hnext : tkR R at_ pl E1 pn pn 0 = (tkR R at_ pl E1 pn (pn - (i + 1)) (i + 1)).map ((S ++ pc) ++ ·) := by
          rw [HREC.out, hstep, Option.map_map]
          congr 1
          funext x
          simp
        have HNX := Go.Lib.hid hnext; have HCUT := Go.Lib.hid hcut
        clear hok hstep hcut hnext hpc
        go_wp2_with fail
        refine ⟨⟨i + 1, S ++ pc, by omega, ?_, by simp, by rw [List.length_append]; omega, HNX.out, B5, h5⟩, by simp [intOf]; omega⟩
        first
          | rw [HCUT.out]
          | (simp only [HCUT.out])
          | rfl
end Go.Proofs.Ytmgkaoenjnnlmaa
