/- The cell's block, laid. Walked. -/
import Derived.Test.YtcdapjfaekamkaaCelb
import Derived.Test.YtcdapjfaekamkaaTail
import Derived.Test.YtcdapjfaekamkaaDskb
namespace Go.Proofs.Ytcdapjfaekamkaa
open Go.RowKit
open Go.NB (Rd Dk Kp Stp Off Dis val)

def zs (n : Nat) : List UInt8 := List.replicate n 0
theorem zs_len (n : Nat) : (zs n).length = n := by simp [zs]
theorem zs_succ (n : Nat) : zs (n + 1) = 0 :: zs n := rfl
/-- A number's eight bytes. -/
def stamp8 (x : Nat) : List UInt8 := (List.range 8).map fun i => UInt8.ofNat (x / 256 ^ (7 - i) % 256)
theorem stamp8_len (x : Nat) : (stamp8 x).length = 8 := by simp [stamp8]
def rowK (x k : Nat) : List UInt8 := (stamp8 x).take k ++ zs (52 - k)
theorem rowK_len (x k : Nat) (h : k ≤ 8) : (rowK x k).length = 52 := by
  rw [rowK, List.length_append, List.length_take, stamp8_len, zs_len]; omega
theorem rowK_zero (x : Nat) : (rowK x 0).map NB.u8v = List.replicate 52 (.int .u8 0) := by
  simp [rowK, zs, NB.u8v]
theorem stamp8_at (x k : Nat) (h : k < 8) : (stamp8 x).getD k 0 = UInt8.ofNat (x / 256 ^ (7 - k) % 256) := by
  rw [List.getD_eq_getElem?_getD, stamp8, List.getElem?_map, List.getElem?_range h]; rfl
theorem rowK_set (x k : Nat) (h : k < 8) : (rowK x k).set k (UInt8.ofNat (x / 256 ^ (7 - k) % 256)) = rowK x (k + 1) := by
  have e : 52 - k = (52 - (k + 1)) + 1 := by omega
  have hl : ((stamp8 x).take k).length = k := by rw [List.length_take, stamp8_len]; omega
  rw [rowK, rowK, NB.take_getD (stamp8 x) k (by rw [stamp8_len]; omega) (d := 0), stamp8_at x k h, e, zs_succ, List.append_assoc]
  rw [List.set_append_right _ _ (by omega), hl, Nat.sub_self]
  rfl
theorem rowK_cells (x k : Nat) (h : k < 8) : ((rowK x k).map NB.u8v).toArray.setIfInBounds k (.int .u8 ((UInt8.ofNat (x / 256 ^ (7 - k) % 256)).toNat : Int)) = ((rowK x (k+1)).map NB.u8v).toArray := by
  rw [← rowK_set x k h, List.map_set]
  simp [NB.u8v]
def rowN (x n : Nat) : List UInt8 := stamp8 x ++ UInt8.ofNat n :: zs 43
theorem rowN_set (x n : Nat) : (rowK x 8).set 8 (UInt8.ofNat n) = rowN x n := by
  have hl : ((stamp8 x).take 8).length = 8 := by rw [List.length_take, stamp8_len]; omega
  rw [rowK, rowN, List.set_append_right _ _ (by omega), hl, List.take_of_length_le (by rw [stamp8_len]; omega)]
  rfl
/-- What stands in a cell's block ahead of the sum. -/
def rowB (x : Nat) (b : List UInt8) : List UInt8 := stamp8 x ++ UInt8.ofNat b.length :: (b ++ zs (43 - b.length))
theorem rowB_len (x : Nat) (b : List UInt8) (h : b.length ≤ 43) : (rowB x b).length = 52 := by
  simp [rowB, stamp8_len, zs_len]; omega
theorem rowB_take (x : Nat) (b : List UInt8) : (rowB x b).take 8 = stamp8 x := by
  rw [rowB, List.take_append_of_le_length (by rw [stamp8_len]; omega), List.take_of_length_le (by rw [stamp8_len]; omega)]
theorem rowB_splice (x : Nat) (b : List UInt8) (h : b.length ≤ 43) : Go.splice ((rowN x b.length).map NB.u8v) 9 (b.map NB.u8v) = (rowB x b).map NB.u8v := by
  have e1 : (rowN x b.length).take 9 = stamp8 x ++ [UInt8.ofNat b.length] := by
    rw [rowN, List.take_append, List.take_of_length_le (by rw [stamp8_len]; omega), stamp8_len]; rfl
  have e2 : (rowN x b.length).drop (9 + b.length) = zs (43 - b.length) := by
    rw [rowN, List.drop_append, List.drop_of_length_le (by rw [stamp8_len]; omega), stamp8_len, show 9 + b.length - 8 = b.length + 1 by omega, List.nil_append, List.drop_succ_cons, zs, List.drop_replicate]
    rfl
  rw [Go.splice, List.length_map, ← List.map_take, ← List.map_drop, e1, e2, rowB]
  simp
/-- A cell's block. -/
def laidL (x : Nat) (b : List UInt8) : List UInt8 := sealedL (rowB x b) ++ stamp8 x
theorem four_len (x : Nat) : (four x).length = 4 := rfl
theorem laidL_len (x : Nat) (b : List UInt8) (h : b.length ≤ 43) : (laidL x b).length = 64 := by
  rw [laidL, sealedL, List.length_append, List.length_append, rowB_len x b h, four_len, stamp8_len]

set_option maxRecDepth 100000 in
set_option maxHeartbeats 2000000 in
theorem laid_any (w : World) (x : Nat) (a : Option Addr) (n c : Nat) (b : List UInt8) (h : NB.RdB w a n c b) (hn : n ≤ 43) (hx : x < 18446744073709551616) :
    Calls Try.prog 32 #[.int .u64 (x : Int), .slice a n c] w (NB.FreshB 5 w (laidL x b)) := by
  obtain rfl : n = b.length := (NB.RdB.size h).symm
  have hbd := Rd.bound h
  have hr0 := Go.Lib.hid (rowK_zero x)
  go_enter Try.func32, Try.ntmps32
  go_wp2_with fail
  go_loopw [7] (fun i wr => ∃ k : Nat, k ≤ 8 ∧ i = .int .i64 k ∧ wr = w.alloc (Obj.cells ((rowK x k).map NB.u8v).toArray 97)) (fun i _ => 8 - (intOf i).toNat)
  case atStart => exact ⟨0, by omega, rfl, by rw [hr0.out]; rfl⟩
  case round =>
    obtain ⟨k, hk, rfl, rfl⟩ := hrel
    have hlen := rowK_len x k hk
    by_cases hlt : k < 8
    · have hset := rowK_cells x k hlt
      have hby : (x : Int) / 2 ^ (8 * (7 - k)) % 256 = ((UInt8.ofNat (x / 256 ^ (7 - k) % 256)).toNat : Int) := by
        rw [← NB.wrap_at x (7 - k), IntKind.wrap_u8, show (8 * ((7 - k : Nat) : Int)).toNat = 8 * (7 - k) by omega]
      have hwk : IntKind.i64.wrap (8 * (k : Int)) = 8 * (k : Int) := IntWalk.i64_in _ (by omega)
      have hwk2 : IntKind.i64.wrap (56 - 8 * (k : Int)) = 8 * ((7 - k : Nat) : Int) := by rw [IntWalk.i64_in _ (by omega)]; omega
      have hz : (rowK x k)[k]? = some 0 := by
        have hl : ((stamp8 x).take k).length = k := by rw [List.length_take, stamp8_len]; omega
        rw [rowK, List.getElem?_append_right (by omega), hl, Nat.sub_self, show 52 - k = (51 - k) + 1 by omega, zs_succ]; rfl
      generalize UInt8.ofNat (x / 256 ^ (7 - k) % 256) = y at *
      have hzc : (((rowK x k).map NB.u8v).toArray)[k]? = some (.int .u8 0) := by simp [hz, NB.u8v]
      have hsz : ((rowK x k).map NB.u8v).toArray.size = 52 := by simp [hlen]
      generalize ((rowK x k).map NB.u8v).toArray = row at *
      clear hlen hz
      have HS := Go.Lib.hid hset; have HBY := Go.Lib.hid hby; clear hset hby
      have hki : (k : Int) < 8 := by omega
      go_wp2_with fail
      go_roundw
      case rel => exact ⟨k + 1, by omega, by go_num, by rw [HBY.out, HS.out]⟩
      case measure => simp [intOf]; omega
    · obtain rfl : k = 8 := by omega
      have hset : (((rowK x 8).map NB.u8v).toArray).setIfInBounds 8 (.int .u8 ((UInt8.ofNat b.length).toNat : Int)) = ((rowN x b.length).map NB.u8v).toArray := by
        rw [← rowN_set, List.map_set]; simp [NB.u8v]
      have hsz : ((rowK x 8).map NB.u8v).toArray.size = 52 := by simp [hlen]
      have hz8 : (rowK x 8)[8]? = some 0 := by
        have hl : ((stamp8 x).take 8).length = 8 := by rw [List.length_take, stamp8_len]; omega
        rw [rowK, List.getElem?_append_right (by omega), hl]; rfl
      have hzc : (((rowK x 8).map NB.u8v).toArray)[8]? = some (.int .u8 0) := by simp [hz8, NB.u8v]
      have hw8 : (b.length : Int) = ((UInt8.ofNat b.length).toNat : Int) := by simp; omega
      rw [← hw8] at hset
      clear hw8
      generalize ((rowK x 8).map NB.u8v).toArray = row at *
      have hn0 : ((rowN x b.length).map NB.u8v).length = 52 := by simp [rowN, stamp8_len, zs_len]
      have hsp := rowB_splice x b hn
      have hbl := rowB_len x b hn
      have htk := rowB_take x b
      have HFIN := Go.Lib.hid (show laidL x b = sealedL (rowB x b) ++ (rowB x b).take 8 by rw [htk]; rfl)
      generalize (rowN x b.length).map NB.u8v = rn at *
      generalize rowB x b = rb at *
      generalize laidL x b = fin at *
      have HSP := Go.Lib.hid hsp; clear hsp htk
      generalize hb : w.alloc (Obj.cells rn.toArray 97) = w1
      have hh1 : w1.heap[w.heap.size]? = some (.cells rn.toArray 97 (0, 0)) := by subst hb; show (w.heap.push _)[w.heap.size]? = _; simp
      have hB1 : Below w.heap.size w w1 := by subst hb; exact (Below.refl _ _).alloc (Nat.le_refl _) _
      have hr1 := Rd.below h hB1
      go_wp2_with (first
        | (refine NB.wpList_copy_at rfl (.tmp 23) (.tmp 24) 23 23 rfl 5 Try.underlying23 (by kernel_rfl) (some ⟨w.heap.size, 9, none⟩) a 43 43 b.length c rfl rfl w.heap.size 9 rn 97 hh1 (b.map NB.u8v) (by rw [List.length_map]; exact (Nat.min_eq_left hn).symm) (fun hp => ⟨rfl, cp hr1 hp⟩) (by rw [List.length_map]; omega) (NB.u8v_one _) ?_; intro w2 hh2 hg2))
      rw [HSP.out] at hh2
      have hB2 : Below w.heap.size w w2 := hB1.grown hg2 (by have := hB1.size; omega) (by rintro k hk; cases hk; exact Nat.le_refl _)
      clear hg2 hh1 hr1 hb
      refine NB.wp_region_t [3] (by kernel_rfl) ?_
      have hB3 : Below w.heap.size w w2.drew := hB2.drew
      have hh3 : w2.drew.heap[w.heap.size]? = some (.cells (rb.map NB.u8v).toArray 97 (0, 0)) := hh2
      generalize w2.drew = w3 at *
      have hr3 := NB.rdB_row hh3 hbl (by unfold maxLen; omega)
      refine NB.t_p 0 rfl (by kernel_rfl) (fun K hK => ?_); go_simp; refine hK _ ?_; clear hK K
      refine NB.t_p 2 rfl (by kernel_rfl) (fun K hK => ?_); go_simp; refine hK _ ?_; clear hK K
      refine NB.t_m 1 rfl (by kernel_rfl) (by kernel_rfl) rfl (fun K hK => ?_); unfold NB.tmoves; go_simp; refine (sealed_any _ _ _ _ _ hr3 (by omega)).mono ?_; rintro e w4 ⟨a4, c4, rfl, ho4, hb4⟩; refine ⟨_, rfl, hb4, hK _ _ ?_⟩; clear hK K
      have hB4 : Below w.heap.size w w4 := hB3.trans (hb4.mono hB3.size)
      have hsl : (sealedL rb).length = 56 := by rw [sealedL, List.length_append, hbl]; rfl
      have ht4 := NB.rdB_cut (Rd.below hr3 hb4) 8 (by omega)
      refine NB.t_w 3 rfl (by kernel_rfl) (by kernel_rfl) rfl (fun Q' hK => ?_)
      refine NB.wpList_append_at rfl (.tmp 27) (.tmp 28) 23 rfl w3.heap.size slTB _ _ ((sealedL rb).map NB.u8v) rfl ho4 _ 8 52 ((rb.take 8).map NB.u8v) rfl ht4 (NB.u8v_one _) (by omega) (by unfold maxLen; omega) hb4.size ?_
      intro v5 w5 ho5 hg5 hv5
      refine hK _ _ ?_
      clear hK Q'
      have hlt4 := ho4.lt
      have hB5 : Below w.heap.size w w5 := hB4.grown hg5 hB4.size (fun k hk => Nat.le_trans hB3.size (hlt4 k hk).1)
      have ho6 := NB.own_mono ho5 hB3.size
      refine NB.t_p 4 rfl (by kernel_rfl) (fun K hK => ?_); go_simp; refine hK _ ?_; clear hK K
      refine NB.t_end (by kernel_rfl) ?_
      go_wp2_with fail
      go_ret
      exact NB.freshB_mk ho6 (by rw [HFIN.out, List.map_append]) hB5
end Go.Proofs.Ytcdapjfaekamkaa
