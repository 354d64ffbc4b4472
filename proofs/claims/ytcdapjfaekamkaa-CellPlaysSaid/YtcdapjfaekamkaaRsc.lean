/- The cell's reference, walked: a block. -/
import Derived.Test.YtcdapjfaekamkaaRsb
import Derived.Test.YtcdapjfaekamkaaRfa
namespace Go.Proofs.Ytcdapjfaekamkaa
open Go.RowKit
open Go.NB.Crc
open Go.NB (Rd Dk Kp Stp Off Dis val Ce footC)

theorem byte_rd8 (w : World) (L : Nat) (hL : L < 256) : NB.RdB (w.alloc (.cells #[.int .u8 (L : Int)] 5)) (some ⟨w.heap.size, 0, none⟩) 1 1 [UInt8.ofNat L] :=
  NB.rdB_lit (n := 1) [UInt8.ofNat L] (by show [Value.int .u8 (L : Int)] = [Value.int .u8 ((UInt8.ofNat L).toNat : Int)]; rw [toNat_of L hL]) rfl (by unfold maxLen; omega) rfl
theorem zs_snoc (j : Nat) : zs j ++ [0] = zs (j + 1) := by rw [zs, zs, List.replicate_succ']

def strLen : Value → Nat
  | .string s => s.size
  | _ => 0
set_option maxRecDepth 100000 in
set_option maxHeartbeats 4000000 in
theorem rblock_any (w : World) (x : Nat) (hx : x < 18446744073709551616) (b : List UInt8) (hb : b.length ≤ 43) :
    Calls Try.prog 22 #[.int .u64 (x : Int), .string ⟨b.toArray⟩] w fun e w' => e = .returned (strL (laidL x b)) ∧ Below w.heap.size w w' := by
  obtain ⟨L, hL⟩ : ∃ L, b.length = L := ⟨_, rfl⟩
  have hL8 : L < 256 := by omega
  have hcat : ¬ 9223372036854775807 < 9 + L := by omega
  have hwL : IntKind.u8.wrap (L : Int) = (L : Int) := by rw [IntKind.wrap_u8]; omega
  have hlaid : laidL x b = rsealedL (stamp8 x ++ (UInt8.ofNat L :: b) ++ zs (43 - L)) ++ stamp8 x := by
    rw [rsealed_eq, laidL, rowB, hL]
    simp
  have HL := Go.Lib.hid hlaid
  obtain ⟨Z, hZ⟩ : ∃ Z, laidL x b = Z := ⟨_, rfl⟩
  rw [hZ]
  rw [hZ] at hlaid
  have h8 := fun w => reight_any w x hx
  have hl8 := stamp8_len x
  clear HL hZ
  generalize stamp8 x = X at *
  have H8 := Go.Lib.hid h8
  have HFIN := Go.Lib.hid hlaid
  clear h8 hlaid
  go_enter Try.func22, Try.ntmps22
  go_wp2_with fail
  refine NB.wp_region_m (by kernel_rfl) ?_
  have hb0 : Below w.heap.size w w.drew := (Below.refl _ w).drew
  generalize w.drew = w1 at *
  refine NB.any_p 0 rfl (by kernel_rfl) (fun K hK => ?_); go_simp; refine hK _ ?_; clear hK K
  refine NB.any_p 2 rfl (by kernel_rfl) (fun K hK => ?_); go_simp; refine hK _ ?_; clear hK K
  refine NB.any_p 3 rfl (by kernel_rfl) (fun K hK => ?_); go_simp; refine hK _ ?_; clear hK K
  refine NB.any_p 4 rfl (by kernel_rfl) (fun K hK => ?_); go_simp; refine hK _ ?_; clear hK K
  refine NB.any_p 8 rfl (by kernel_rfl) (fun K hK => ?_); go_simp; refine hK _ ?_; clear hK K
  refine NB.any_e2 1 5 rfl rfl (by kernel_rfl) (fun K hK => ?_) (fun K hK => ?_)
  · unfold NB.moves; go_simp
    refine (H8.out _).mono ?_
    rintro e w2 ⟨rfl, hb2⟩
    refine ⟨_, rfl, hb2, hK _ _ ?_⟩; clear hK K
    have B2 := bel hb0 hb2 hb0.size
    unfold strL
    refine NB.any_e 5 rfl (by kernel_rfl) (fun K hK => ?_); unfold NB.moves; go_simp; refine ⟨(Below.refl _ _).alloc (Nat.le_refl _) _, hK _ _ ?_⟩; clear hK K
    have B3 := B2.alloc B2.size (.cells #[.int .u8 (L : Int)] 5)
    have h3 := byte_rd8 w2 L hL8
    generalize w2.alloc (.cells #[.int .u8 (L : Int)] 5) = w3 at *
    refine NB.any_r 6 rfl (by kernel_rfl) rfl _ (fun w' hw' => NB.run_op_conv_str Try.underlying23 Try.underlying5 Try.underlying9 rfl rfl (Rd.below h3 hw')) (fun K hK => ?_); go_simp; refine hK _ ?_; clear hK K
    refine NB.any_p 7 rfl (by kernel_rfl) (fun K hK => ?_); go_simp; refine hK _ ?_; clear hK K
    refine NB.any_p 9 rfl (by kernel_rfl) (fun K hK => ?_); go_simp; refine hK _ ?_; clear hK K
    refine NB.any_p 10 rfl (by kernel_rfl) (fun K hK => ?_); go_simp; refine hK _ ?_; clear hK K
    refine NB.any_end (by kernel_rfl) ?_
    go_wp2_with fail
    have hlS : (X ++ UInt8.ofNat L :: b).length = 9 + L := by simp [hl8, hL]; omega
    generalize X ++ UInt8.ofNat L :: b = S0 at *
    go_loop [5] (fun v => ∃ (j : Nat) (S : List UInt8), S = S0 ++ zs j ∧ S.length = 9 + L + j ∧ S.length ≤ 52 ∧ v = .string ⟨S.toArray⟩) (fun v => 52 - strLen v)
    case atStart => exact ⟨0, S0, by simp [zs], by omega, by omega, rfl⟩
    case round =>
      obtain ⟨j, S, hS, hSl, hS52, rfl⟩ := hrel
      by_cases hlt : S.length < 52
      · have hlti : (S.length : Int) < 52 := by omega
        have hc2 : ¬ 9223372036854775807 < S.length + 1 := by omega
        have HS := Go.Lib.hid hS
        have HSL := Go.Lib.hid hSl
        clear hS hSl hlS
        go_wp2_with fail
        exact ⟨⟨j + 1, S ++ [0], by rw [HS.out, List.append_assoc, zs_snoc], by rw [List.length_append, HSL.out]; rfl, by rw [List.length_append]; simp; omega, rfl⟩, by
          have e1 : strLen (.string ⟨(S ++ [0]).toArray⟩) = S.length + 1 := by show (S ++ [0]).toArray.size = _; simp
          have e2 : strLen (.string ⟨S.toArray⟩) = S.length := by show S.toArray.size = _; simp
          rw [e1, e2]; omega⟩
      · have h52 : S.length = 52 := by omega
        have hlti : ¬ (S.length : Int) < 52 := by omega
        have hj : j = 43 - L := by omega
        subst hj
        have hZe := HFIN.out
        rw [← hS] at hZe
        have hsl := rsealed_any w3 S (by omega)
        have hRl : (rsealedL S).length = 56 := by rw [rsealedL, List.length_append, h52]; rfl
        generalize rsealedL S = R at *
        have HSL := Go.Lib.hid hsl
        have HZE := Go.Lib.hid hZe
        clear hsl hS hSl hlS hS52 hZe
        go_wp2_with fail
        go_at_call 41
        refine HSL.out.mono ?_
        rintro e w5 ⟨rfl, hb5⟩
        have B5 := bel B3 hb5 B3.size
        go_wp2_with fail
        go_at_call 40
        refine (H8.out _).mono ?_
        rintro e w6 ⟨rfl, hb6⟩
        unfold strL
        go_wp2_with fail
        go_ret
        rw [HZE.out]
        exact ⟨rfl, bel B5 hb6 B5.size⟩
  · unfold NB.moves; go_simp
    have hbb := oneB w1 (.cells #[.int .u8 (L : Int)] 5)
    refine ⟨hbb, hK _ _ ?_⟩; clear hK K
    have B2 := bel hb0 hbb hb0.size
    have h2 := byte_rd8 w1 L hL8
    generalize w1.alloc (.cells #[.int .u8 (L : Int)] 5) = w2 at *
    refine NB.any_r 6 rfl (by kernel_rfl) rfl _ (fun w' hw' => NB.run_op_conv_str Try.underlying23 Try.underlying5 Try.underlying9 rfl rfl (Rd.below h2 hw')) (fun K hK => ?_); go_simp; refine hK _ ?_; clear hK K
    refine NB.any_e 1 rfl (by kernel_rfl) (fun K hK => ?_); unfold NB.moves; go_simp; refine (H8.out _).mono ?_; rintro e w3 ⟨rfl, hb3⟩; refine ⟨_, rfl, hb3, hK _ _ ?_⟩; clear hK K
    have B3 := bel B2 hb3 B2.size
    unfold strL
    refine NB.any_p 7 rfl (by kernel_rfl) (fun K hK => ?_); go_simp; refine hK _ ?_; clear hK K
    refine NB.any_p 9 rfl (by kernel_rfl) (fun K hK => ?_); go_simp; refine hK _ ?_; clear hK K
    refine NB.any_p 10 rfl (by kernel_rfl) (fun K hK => ?_); go_simp; refine hK _ ?_; clear hK K
    refine NB.any_end (by kernel_rfl) ?_
    go_wp2_with fail
    have hlS : (X ++ UInt8.ofNat L :: b).length = 9 + L := by simp [hl8, hL]; omega
    generalize X ++ UInt8.ofNat L :: b = S0 at *
    go_loop [5] (fun v => ∃ (j : Nat) (S : List UInt8), S = S0 ++ zs j ∧ S.length = 9 + L + j ∧ S.length ≤ 52 ∧ v = .string ⟨S.toArray⟩) (fun v => 52 - strLen v)
    case atStart => exact ⟨0, S0, by simp [zs], by omega, by omega, rfl⟩
    case round =>
      obtain ⟨j, S, hS, hSl, hS52, rfl⟩ := hrel
      by_cases hlt : S.length < 52
      · have hlti : (S.length : Int) < 52 := by omega
        have hc2 : ¬ 9223372036854775807 < S.length + 1 := by omega
        have HS := Go.Lib.hid hS
        have HSL := Go.Lib.hid hSl
        clear hS hSl hlS
        go_wp2_with fail
        exact ⟨⟨j + 1, S ++ [0], by rw [HS.out, List.append_assoc, zs_snoc], by rw [List.length_append, HSL.out]; rfl, by rw [List.length_append]; simp; omega, rfl⟩, by
          have e1 : strLen (.string ⟨(S ++ [0]).toArray⟩) = S.length + 1 := by show (S ++ [0]).toArray.size = _; simp
          have e2 : strLen (.string ⟨S.toArray⟩) = S.length := by show S.toArray.size = _; simp
          rw [e1, e2]; omega⟩
      · have h52 : S.length = 52 := by omega
        have hlti : ¬ (S.length : Int) < 52 := by omega
        have hj : j = 43 - L := by omega
        subst hj
        have hZe := HFIN.out
        rw [← hS] at hZe
        have hsl := rsealed_any w3 S (by omega)
        have hRl : (rsealedL S).length = 56 := by rw [rsealedL, List.length_append, h52]; rfl
        generalize rsealedL S = R at *
        have HSL := Go.Lib.hid hsl
        have HZE := Go.Lib.hid hZe
        clear hsl hS hSl hlS hS52 hZe
        go_wp2_with fail
        go_at_call 41
        refine HSL.out.mono ?_
        rintro e w5 ⟨rfl, hb5⟩
        have B5 := bel B3 hb5 B3.size
        go_wp2_with fail
        go_at_call 40
        refine (H8.out _).mono ?_
        rintro e w6 ⟨rfl, hb6⟩
        unfold strL
        go_wp2_with fail
        go_ret
        rw [HZE.out]
        exact ⟨rfl, bel B5 hb6 B5.size⟩
end Go.Proofs.Ytcdapjfaekamkaa
