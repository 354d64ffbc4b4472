/- A segment's block, laid. Walked. -/
import Derived.Test.YtjfidhjnbcmhfaaSgb
import Derived.Test.YtjfidhjnbcmhfaaTail
import Derived.Test.YtjfidhjnbcmhfaaTals
namespace Go.Proofs.Ytjfidhjnbcmhfaa
open Go.RowKit
open Go.NB (Rd Dk Kp Stp Off Dis val oneB dB Rw)

def rowK (ep pl k : Nat) : List UInt8 := (four ep).take k ++ (zs (4 - k) ++ ((four pl).take k ++ (zs (4 - k) ++ zs 48)))
def stb (x k : Nat) : UInt8 := UInt8.ofNat (x / 256 ^ (3 - k) % 256)
theorem four_at (x k : Nat) (h : k < 4) : (four x).take (k + 1) = (four x).take k ++ [stb x k] := by
  have hc : k = 0 ∨ k = 1 ∨ k = 2 ∨ k = 3 := by omega
  have e : ∀ y : Nat, UInt8.ofNat (y % 256) = UInt8.ofNat y := fun y => by
    apply UInt8.toNat_inj.1
    rw [UInt8.toNat_ofNat', UInt8.toNat_ofNat']
    omega
  rcases hc with rfl | rfl | rfl | rfl <;> simp [four, stb, e]
theorem rowK_len (ep pl k : Nat) (h : k ≤ 4) : (rowK ep pl k).length = 56 := by
  simp only [rowK, List.length_append, List.length_take, four_len, zs_len]; omega
theorem rowK_zero (ep pl : Nat) : (rowK ep pl 0).map NB.u8v = List.replicate 56 (.int .u8 0) := by
  simp [rowK, zs, NB.u8v]
theorem rowK_z1 (ep pl k : Nat) (h : k < 4) : (rowK ep pl k)[k]? = some 0 := by
  have hl : ((four ep).take k).length = k := by rw [List.length_take, four_len]; omega
  rw [rowK, List.getElem?_append_right (by omega), hl, Nat.sub_self, show 4 - k = (3 - k) + 1 by omega]
  rfl
theorem rowK_set (ep pl k : Nat) (h : k < 4) : ((rowK ep pl k).set k (stb ep k)).set (4 + k) (stb pl k) = rowK ep pl (k + 1) := by
  have hc : k = 0 ∨ k = 1 ∨ k = 2 ∨ k = 3 := by omega
  have h1 := four_at ep k h
  have h2 := four_at pl k h
  rw [rowK, rowK, h1, h2]
  rcases hc with rfl | rfl | rfl | rfl <;> rfl
theorem rowK_z2 (ep pl k : Nat) (h : k < 4) : (((rowK ep pl k).set k (stb ep k)))[4 + k]? = some 0 := by
  have hc : k = 0 ∨ k = 1 ∨ k = 2 ∨ k = 3 := by omega
  rw [rowK]
  rcases hc with rfl | rfl | rfl | rfl <;> rfl

def rowN (ep pl pt pn n : Nat) : List UInt8 := four ep ++ (four pl ++ (UInt8.ofNat pt :: UInt8.ofNat pn :: UInt8.ofNat n :: zs 45))
theorem rowS_splice (ep pl pt pn : Nat) (b : List UInt8) (h : b.length ≤ 45) : Go.splice ((rowN ep pl pt pn b.length).map NB.u8v) 11 (b.map NB.u8v) = (rowS ep pl pt pn b).map NB.u8v := by
  have e1 : (rowN ep pl pt pn b.length).take 11 = four ep ++ (four pl ++ [UInt8.ofNat pt, UInt8.ofNat pn, UInt8.ofNat b.length]) := rfl
  have e2 : (rowN ep pl pt pn b.length).drop (11 + b.length) = zs (45 - b.length) := by
    have : (rowN ep pl pt pn b.length).drop (11 + b.length) = (zs 45).drop b.length := by
      rw [← List.drop_drop]; rfl
    rw [this, zs, List.drop_replicate]; rfl
  rw [Go.splice, List.length_map, ← List.map_take, ← List.map_drop, e1, e2, rowS]
  simp

set_option maxRecDepth 100000 in
set_option maxHeartbeats 2000000 in
theorem slaid_any (w : World) (ep pl pt pn : Nat) (a : Option Addr) (n c : Nat) (b : List UInt8) (h : NB.RdB w a n c b) (hn : n ≤ 45) (he : ep < 18446744073709551616) (hp : pl < 18446744073709551616) (ht : pt < 256) (hm : pn < 256) :
    Calls Try.prog 60 #[.agg (blkV ⟨ep, pl, pt, pn, b⟩ a n c).toArray] w (NB.FreshB 5 w (blkL ep pl pt pn b)) := by
  obtain rfl : n = b.length := (NB.RdB.size h).symm
  have hbd := Rd.bound h
  have hr0 := Go.Lib.hid (rowK_zero ep pl)
  unfold blkV
  go_enter Try.func60, Try.ntmps60
  go_wp2_with fail
  go_loopw [5] (fun i wr => ∃ k : Nat, k ≤ 4 ∧ i = .int .i64 k ∧ Rw wr (w.heap.size + 1) ((rowK ep pl k).map NB.u8v) 125 ∧ Rw wr w.heap.size (blkV ⟨ep, pl, pt, pn, b⟩ a b.length c) 93 ∧ Below w.heap.size w wr) (fun i _ => 4 - (intOf i).toNat)
  case atStart => exact ⟨0, by omega, rfl, by rw [hr0.out]; exact NB.rw_new _ _ _ (by simp), (NB.rw_new w _ 93 rfl).below (oneB _ _), NB.bel (oneB _ _) (oneB _ _) (by simp)⟩
  case round =>
    obtain ⟨k, hk, rfl, RA, RX, B⟩ := hrel
    have hlen := rowK_len ep pl k hk
    by_cases hlt : k < 4
    · have hset := rowK_set ep pl k hlt
      have hzz1 := rowK_z1 ep pl k hlt
      have hzz2 := rowK_z2 ep pl k hlt
      have hb1 : (ep : Int) / 2 ^ (8 * (3 - k)) % 256 = ((stb ep k).toNat : Int) := by
        rw [stb, ← NB.wrap_at ep (3 - k), IntKind.wrap_u8, show (8 * ((3 - k : Nat) : Int)).toNat = 8 * (3 - k) by omega]
      have hb2 : (pl : Int) / 2 ^ (8 * (3 - k)) % 256 = ((stb pl k).toNat : Int) := by
        rw [stb, ← NB.wrap_at pl (3 - k), IntKind.wrap_u8, show (8 * ((3 - k : Nat) : Int)).toNat = 8 * (3 - k) by omega]
      have hwk : IntKind.i64.wrap (8 * (k : Int)) = 8 * (k : Int) := IntWalk.i64_in _ (by omega)
      have hwk2 : IntKind.i64.wrap (24 - 8 * (k : Int)) = 8 * ((3 - k : Nat) : Int) := by rw [IntWalk.i64_in _ (by omega)]; omega
      have hwk4 : IntKind.i64.wrap (4 + (k : Int)) = ((4 + k : Nat) : Int) := by rw [IntWalk.i64_in _ (by omega)]; omega
      have hset' : (((rowK ep pl k).map NB.u8v).set k (.int .u8 ((stb ep k).toNat : Int))).set (4 + k) (.int .u8 ((stb pl k).toNat : Int)) = (rowK ep pl (k + 1)).map NB.u8v := by
        rw [← hset, List.map_set, List.map_set]; rfl
      have hz1 : ((rowK ep pl k).map NB.u8v)[k]? = some (.int .u8 0) := by simp [hzz1, NB.u8v]
      have hz2 : (((rowK ep pl k).map NB.u8v).set k (.int .u8 ((stb ep k).toNat : Int)))[4 + k]? = some (.int .u8 0) := by
        have : ((rowK ep pl k).map NB.u8v).set k (.int .u8 ((stb ep k).toNat : Int)) = ((rowK ep pl k).set k (stb ep k)).map NB.u8v := by rw [List.map_set]; rfl
        rw [this, List.getElem?_map, hzz2]; rfl
      generalize stb ep k = y1 at *
      generalize stb pl k = y2 at *
      generalize (rowK ep pl k).map NB.u8v = row at *
      clear hlen hset hzz1 hzz2
      have HS := Go.Lib.hid hset'; have HB1 := Go.Lib.hid hb1; have HB2 := Go.Lib.hid hb2; clear hset'
      have hki : (k : Int) < 4 := by omega
      have hk56 : ((4 + k : Nat) : Int) < 56 := by omega
      have hki56 : (k : Int) < 56 := by omega
      have hk56b : 4 + (k : Int) < 56 := by omega
      have hk40 : (0 : Int) ≤ 4 + (k : Int) := by omega
      have hk4T : (4 + (k : Int)).toNat = 4 + k := by omega
      unfold blkV at RX
      go_wp2_with fail
      refine NB.wp_region_s [18, 20] (fun w' => Rw w' w.heap.size [.int .u64 (ep : Int), .int .u64 (pl : Int), .int .i64 (pt : Int), .int .i64 (pn : Int), .slice a b.length c] 93) (by kernel_rfl) ?_
      have RA2 := RA.below (dB _)
      have RX2 := RX.below (dB _)
      have B2 : Below w.heap.size w wr.drew := B.drew
      clear RA RX B
      generalize wr.drew = v at *
      obtain ⟨d0, d1, d2, d3, d4, _⟩ := NB.rw5 RX2
      have hst : ∀ x y, Rw x w.heap.size [.int .u64 (ep : Int), .int .u64 (pl : Int), .int .i64 (pt : Int), .int .i64 (pn : Int), .slice a b.length c] 93 → Below x.heap.size x y → Rw y w.heap.size [.int .u64 (ep : Int), .int .u64 (pl : Int), .int .i64 (pt : Int), .int .i64 (pn : Int), .slice a b.length c] 93 := fun x y hx hy => hx.below hy
      refine NB.s_p 0 rfl (by kernel_rfl) (fun K hK => ?_); go_simp; refine hK _ ?_; clear hK K
      refine NB.s_p 1 rfl (by kernel_rfl) (fun K hK => ?_); go_simp; refine hK _ ?_; clear hK K
      refine NB.s_p 2 rfl (by kernel_rfl) (fun K hK => ?_); go_simp; refine hK _ ?_; clear hK K
      refine NB.s_p 3 rfl (by kernel_rfl) (fun K hK => ?_); go_simp; refine hK _ ?_; clear hK K
      refine NB.s_r 4 [8, 9, 17, 18, 19, 20] rfl (by kernel_rfl) (by kernel_rfl) rfl _ (fun w' hw' => NB.run_op_load rfl rfl Try.underlying32 rfl (d0) hw') (fun K hK => ?_); go_simp; refine hK _ ?_; clear hK K
      refine NB.s_p 5 rfl (by kernel_rfl) (fun K hK => ?_); go_simp; refine hK _ ?_; clear hK K
      refine NB.s_p 6 rfl (by kernel_rfl) (fun K hK => ?_); go_simp; refine hK _ ?_; clear hK K
      refine NB.s_p 7 rfl (by kernel_rfl) (fun K hK => ?_); go_simp; refine hK _ ?_; clear hK K
      refine NB.s_p 8 rfl (by kernel_rfl) (fun K hK => ?_); go_simp; refine hK _ ?_; clear hK K
      refine NB.s_p 9 rfl (by kernel_rfl) (fun K hK => ?_); go_simp; refine hK _ ?_; clear hK K
      refine NB.s_p 10 rfl (by kernel_rfl) (fun K hK => ?_); go_simp; refine hK _ ?_; clear hK K
      refine NB.s_a 11 rfl (by kernel_rfl) rfl _ RX2 hst (fun w' hw' => NB.run_op_load rfl rfl Try.underlying32 rfl (Rw.cell hw' 1 _ rfl) (Below.refl _ w')) (fun K hK => ?_); go_simp; refine hK _ ?_; clear hK K
      refine NB.s_p 12 rfl (by kernel_rfl) (fun K hK => ?_); go_simp; refine hK _ ?_; clear hK K
      refine NB.s_p 13 rfl (by kernel_rfl) (fun K hK => ?_); go_simp; refine hK _ ?_; clear hK K
      refine NB.s_p 14 rfl (by kernel_rfl) (fun K hK => ?_); go_simp; refine hK _ ?_; clear hK K
      refine NB.s_p 15 rfl (by kernel_rfl) (fun K hK => ?_); go_simp; refine hK _ ?_; clear hK K
      refine NB.s_p 16 rfl (by kernel_rfl) (fun K hK => ?_); go_simp; refine hK _ ?_; clear hK K
      refine NB.s_p 17 rfl (by kernel_rfl) (fun K hK => ?_); go_simp; refine hK _ ?_; clear hK K
      refine NB.s_w 18 rfl (by kernel_rfl) (by kernel_rfl) rfl (fun Q' hK => ?_)
      have z1 := RA2.cell k _ hz1; have f1 := RA2.free k; go_wp2_with fail; have RXa := RX2.other (g' := w.heap.size + 1) (by omega) k (.int .u8 (y1.toNat : Int)); rw [HB1.out]; refine ⟨RXa, ?_⟩; have RA3 := RA2.set k (.int .u8 (y1.toNat : Int)); have B3 := Below.setCell (p := ⟨w.heap.size + 1, k, none⟩) B2 (Nat.le_add_right _ _) (.int .u8 (y1.toNat : Int))
      refine NB.s_p 19 rfl (by kernel_rfl) (fun K hK => ?_); go_simp; refine hK _ ?_; clear hK K
      refine NB.s_w 20 rfl (by kernel_rfl) (by kernel_rfl) rfl (fun Q' hK => ?_)
      have z2 := RA3.cell (4 + k) _ hz2; have f2 := RA3.free (4 + k); go_wp2_with fail; refine ⟨RXa.other (g' := w.heap.size + 1) (by omega) (4 + k) (.int .u8 (y2.toNat : Int)), ?_⟩; have RA4 := RA3.set (4 + k) (.int .u8 (y2.toNat : Int)); rw [HS.out] at RA4; have RX4 := (RX2.other (g' := w.heap.size + 1) (by omega) k (.int .u8 (y1.toNat : Int))).other (g' := w.heap.size + 1) (by omega) (4 + k) (.int .u8 (y2.toNat : Int)); have B4 := Below.setCell (p := ⟨w.heap.size + 1, 4 + k, none⟩) B3 (Nat.le_add_right _ _) (.int .u8 (y2.toNat : Int)); clear RA3 RA2 RX2 RXa hst B2 B3 z1 z2 f1 f2 d0 d1 d2 d3 d4
      refine NB.s_end (by kernel_rfl) ?_
      go_wp2_with fail
      go_roundw
      case rel => exact ⟨k + 1, by omega, by go_num, RA4, RX4, B4⟩
      case measure => simp [intOf]; omega
    · obtain rfl : k = 4 := by omega
      have hz8 : ((rowK ep pl 4).map NB.u8v)[8]? = some (.int .u8 0) := by simp [rowK, four, zs, NB.u8v]
      have hz9 : (((rowK ep pl 4).map NB.u8v).set 8 (.int .u8 (pt : Int)))[9]? = some (.int .u8 0) := by simp [rowK, four, zs, NB.u8v]
      have hz10 : ((((rowK ep pl 4).map NB.u8v).set 8 (.int .u8 (pt : Int))).set 9 (.int .u8 (pn : Int)))[10]? = some (.int .u8 0) := by simp [rowK, four, zs, NB.u8v]
      have hset : ((((rowK ep pl 4).map NB.u8v).set 8 (.int .u8 (pt : Int))).set 9 (.int .u8 (pn : Int))).set 10 (.int .u8 (b.length : Int)) = (rowN ep pl pt pn b.length).map NB.u8v := by
        simp [rowK, rowN, four, zs, NB.u8v, Nat.mod_eq_of_lt ht, Nat.mod_eq_of_lt hm, Nat.mod_eq_of_lt (show b.length < 256 by omega)]
      have hn0 : ((rowN ep pl pt pn b.length).map NB.u8v).length = 56 := by simp [rowN, four_len, zs_len]
      have hsp := rowS_splice ep pl pt pn b hn
      have hbl := rowS_len ep pl pt pn b hn
      have htk : (rowS ep pl pt pn b).take 4 = four ep := by rw [rowS, List.take_left' (four_len ep)]
      have HFIN := Go.Lib.hid (show blkL ep pl pt pn b = sealedL (rowS ep pl pt pn b) ++ (rowS ep pl pt pn b).take 4 by rw [htk]; rfl)
      have hwt : IntKind.u8.wrap (pt : Int) = (pt : Int) := by rw [IntKind.wrap_u8]; omega
      have hwm : IntKind.u8.wrap (pn : Int) = (pn : Int) := by rw [IntKind.wrap_u8]; omega
      have hwb : IntKind.u8.wrap (b.length : Int) = (b.length : Int) := by rw [IntKind.wrap_u8]; omega
      generalize (rowN ep pl pt pn b.length).map NB.u8v = rn at *
      generalize rowS ep pl pt pn b = rb at *
      generalize blkL ep pl pt pn b = fin at *
      generalize (rowK ep pl 4).map NB.u8v = row at *
      have HSP := Go.Lib.hid hsp; have HS := Go.Lib.hid hset; clear hsp htk hset hlen
      unfold blkV at RX
      go_wp2_with fail
      refine NB.wp_region_s [11, 13, 15] (fun w' => Rw w' w.heap.size [.int .u64 (ep : Int), .int .u64 (pl : Int), .int .i64 (pt : Int), .int .i64 (pn : Int), .slice a b.length c] 93) (by kernel_rfl) ?_
      have RA2 := RA.below (dB _)
      have RX2 := RX.below (dB _)
      have B2 : Below w.heap.size w wr.drew := B.drew
      clear RA RX B
      generalize wr.drew = v at *
      obtain ⟨d0, d1, d2, d3, d4, _⟩ := NB.rw5 RX2
      have hst : ∀ x y, Rw x w.heap.size [.int .u64 (ep : Int), .int .u64 (pl : Int), .int .i64 (pt : Int), .int .i64 (pn : Int), .slice a b.length c] 93 → Below x.heap.size x y → Rw y w.heap.size [.int .u64 (ep : Int), .int .u64 (pl : Int), .int .i64 (pt : Int), .int .i64 (pn : Int), .slice a b.length c] 93 := fun x y hx hy => hx.below hy
      refine NB.s_p 0 rfl (by kernel_rfl) (fun K hK => ?_); go_simp; refine hK _ ?_; clear hK K
      refine NB.s_r 1 [2, 10, 11, 12, 13, 14, 15] rfl (by kernel_rfl) (by kernel_rfl) rfl _ (fun w' hw' => NB.run_op_load rfl rfl Try.underlying3 rfl (d2) hw') (fun K hK => ?_); go_simp; refine hK _ ?_; clear hK K
      refine NB.s_p 2 rfl (by kernel_rfl) (fun K hK => ?_); go_simp; refine hK _ ?_; clear hK K
      refine NB.s_p 3 rfl (by kernel_rfl) (fun K hK => ?_); go_simp; refine hK _ ?_; clear hK K
      refine NB.s_a 4 rfl (by kernel_rfl) rfl _ RX2 hst (fun w' hw' => NB.run_op_load rfl rfl Try.underlying3 rfl (Rw.cell hw' 3 _ rfl) (Below.refl _ w')) (fun K hK => ?_); go_simp; refine hK _ ?_; clear hK K
      refine NB.s_p 5 rfl (by kernel_rfl) (fun K hK => ?_); go_simp; refine hK _ ?_; clear hK K
      refine NB.s_p 6 rfl (by kernel_rfl) (fun K hK => ?_); go_simp; refine hK _ ?_; clear hK K
      refine NB.s_a 7 rfl (by kernel_rfl) rfl _ RX2 hst (fun w' hw' => NB.run_op_load rfl rfl Try.underlying22 rfl (Rw.cell hw' 4 _ rfl) (Below.refl _ w')) (fun K hK => ?_); go_simp; refine hK _ ?_; clear hK K
      refine NB.s_p 8 rfl (by kernel_rfl) (fun K hK => ?_); go_simp; refine hK _ ?_; clear hK K
      refine NB.s_p 9 rfl (by kernel_rfl) (fun K hK => ?_); go_simp; refine hK _ ?_; clear hK K
      refine NB.s_p 10 rfl (by kernel_rfl) (fun K hK => ?_); go_simp; refine hK _ ?_; clear hK K
      refine NB.s_w 11 rfl (by kernel_rfl) (by kernel_rfl) rfl (fun Q' hK => ?_)
      have z1 := RA2.cell 8 _ hz8; have f1 := RA2.free 8; go_wp2_with fail; have RXa := RX2.other (g' := w.heap.size + 1) (by omega) 8 (.int .u8 (pt : Int)); refine ⟨RXa, ?_⟩; have RA3 := RA2.set 8 (.int .u8 (pt : Int)); have B3 := Below.setCell (p := ⟨w.heap.size + 1, 8, none⟩) B2 (Nat.le_add_right _ _) (.int .u8 (pt : Int))
      refine NB.s_p 12 rfl (by kernel_rfl) (fun K hK => ?_); go_simp; refine hK _ ?_; clear hK K
      refine NB.s_w 13 rfl (by kernel_rfl) (by kernel_rfl) rfl (fun Q' hK => ?_)
      have z2 := RA3.cell 9 _ hz9; have f2 := RA3.free 9; go_wp2_with fail; have RXb := RXa.other (g' := w.heap.size + 1) (by omega) 9 (.int .u8 (pn : Int)); refine ⟨RXb, ?_⟩; have RA4 := RA3.set 9 (.int .u8 (pn : Int)); have B4 := Below.setCell (p := ⟨w.heap.size + 1, 9, none⟩) B3 (Nat.le_add_right _ _) (.int .u8 (pn : Int))
      refine NB.s_p 14 rfl (by kernel_rfl) (fun K hK => ?_); go_simp; refine hK _ ?_; clear hK K
      refine NB.s_w 15 rfl (by kernel_rfl) (by kernel_rfl) rfl (fun Q' hK => ?_)
      have z3 := RA4.cell 10 _ hz10; have f3 := RA4.free 10; go_wp2_with fail; have RXc := RXb.other (g' := w.heap.size + 1) (by omega) 10 (.int .u8 (b.length : Int)); refine ⟨RXc, ?_⟩; have RA5 := RA4.set 10 (.int .u8 (b.length : Int)); have B5 := Below.setCell (p := ⟨w.heap.size + 1, 10, none⟩) B4 (Nat.le_add_right _ _) (.int .u8 (b.length : Int))
      refine NB.s_end (by kernel_rfl) ?_
      have RA6 := RA5
      rw [HS.out] at RA6
      have RX6 := RXc
      have B6 := B5
      clear RA2 RA3 RA4 RA5 B2 B3 B4 B5 z1 z2 z3 f1 f2 f3 d0 d1 d2 d3 d4 RX2 RXa RXb RXc hst hz8 hz9 hz10
      go_wp2_with fail
      generalize ((v.setCell ⟨w.heap.size + 1, 8, none⟩ (.int .u8 (pt : Int))).setCell ⟨w.heap.size + 1, 9, none⟩ (.int .u8 (pn : Int))).setCell ⟨w.heap.size + 1, 10, none⟩ (.int .u8 (b.length : Int)) = w6 at *
      refine NB.wp_region_t [3] (by kernel_rfl) ?_
      have hr7 := h.below B6
      have RA7 := RA6.below (dB _)
      have RX7 := RX6.below (dB _)
      have B7 : Below w.heap.size w w6.drew := B6.drew
      have hr8 : NB.RdB w6.drew a b.length c b := Rd.below hr7 (dB _)
      clear RA6 RX6 B6 hr7
      generalize w6.drew = w7 at *
      obtain ⟨d0, d1, d2, d3, d4, _⟩ := NB.rw5 RX7
      refine NB.t_p 0 rfl (by kernel_rfl) (fun K hK => ?_); go_simp; refine hK _ ?_; clear hK K
      refine NB.t_p 1 rfl (by kernel_rfl) (fun K hK => ?_); go_simp; refine hK _ ?_; clear hK K
      refine NB.t_r 2 [3] rfl (by kernel_rfl) (by kernel_rfl) rfl _ (fun w' hw' => NB.run_op_load rfl rfl Try.underlying22 rfl (d4) hw') (fun K hK => ?_); go_simp; refine hK _ ?_; clear hK K
      refine NB.t_w 3 rfl (by kernel_rfl) (by kernel_rfl) rfl (fun Q' hK => ?_)
      refine NB.wpList_copy_at rfl (.tmp 41) (.tmp 43) 22 22 rfl 5 Try.underlying22 (by kernel_rfl) (some ⟨w.heap.size + 1, 11, none⟩) a 45 45 b.length c rfl rfl (w.heap.size + 1) 11 rn 125 RA7 (b.map NB.u8v) (by rw [List.length_map]; exact (Nat.min_eq_left hn).symm) (fun hp => ⟨rfl, cp hr8 hp⟩) (by rw [List.length_map]; omega) (NB.u8v_one _) ?_; intro w8 hh8 hg8; refine hK _ _ ?_; clear hK Q'
      refine NB.t_end (by kernel_rfl) ?_
      rw [HSP.out] at hh8
      have B8 : Below w.heap.size w w8 := B7.grown hg8 (by have := B7.size; omega) (by rintro k hk; cases hk; exact Nat.le_add_right _ _)
      clear hg8 RA7 RX7 hr8 d0 d1 d2 d3 d4 B7
      go_wp2_with fail
      refine NB.wp_region_t [3] (by kernel_rfl) ?_
      have hh9 : w8.drew.heap[w.heap.size + 1]? = some (.cells (rb.map NB.u8v).toArray 125 (0, 0)) := hh8
      have B9 : Below w.heap.size w w8.drew := B8.drew
      clear hh8 B8
      generalize w8.drew = w9 at *
      have hr9 := NB.rdB_row hh9 hbl (by unfold maxLen; omega)
      refine NB.t_p 0 rfl (by kernel_rfl) (fun K hK => ?_); go_simp; refine hK _ ?_; clear hK K
      refine NB.t_p 2 rfl (by kernel_rfl) (fun K hK => ?_); go_simp; refine hK _ ?_; clear hK K
      refine NB.t_e 1 rfl (by kernel_rfl) (by kernel_rfl) (fun K hK => ?_); unfold NB.tmoves; go_simp; refine (sealed_any _ _ _ _ _ hr9 (by omega)).mono ?_; rintro e w10 ⟨a10, c10, rfl, ho10, hb10⟩; refine ⟨_, rfl, hb10, hK _ _ ?_⟩; clear hK K
      have B10 : Below w.heap.size w w10 := B9.trans (hb10.mono B9.size)
      have hsl : (sealedL rb).length = 60 := by rw [sealedL_len, hbl]
      have ht10 := NB.rdB_cut (Rd.below hr9 hb10) 4 (by omega)
      refine NB.t_w 3 rfl (by kernel_rfl) (by kernel_rfl) rfl (fun Q' hK => ?_)
      refine NB.wpList_append_at rfl (.tmp 46) (.tmp 47) 22 rfl w9.heap.size slTB _ _ ((sealedL rb).map NB.u8v) rfl ho10 _ 4 56 ((rb.take 4).map NB.u8v) rfl ht10 (NB.u8v_one _) (by omega) (by unfold maxLen; omega) hb10.size ?_; intro v11 w11 ho11 hg11 hv11; refine hK _ _ ?_; clear hK Q'
      refine NB.t_p 4 rfl (by kernel_rfl) (fun K hK => ?_); go_simp; refine hK _ ?_; clear hK K
      refine NB.t_end (by kernel_rfl) ?_
      have hlt10 := ho10.lt
      have B11 : Below w.heap.size w w11 := B10.grown hg11 B10.size (fun k hk => Nat.le_trans B9.size (hlt10 k hk).1)
      have ho12 := NB.own_mono ho11 B9.size
      go_wp2_with fail
      go_ret
      exact NB.freshB_mk ho12 (by rw [HFIN.out, List.map_append]) B11
end Go.Proofs.Ytjfidhjnbcmhfaa
