/- The walk for the statement DedupCut. -/
import Derived.Test.YthemdfcokphjeaaDdw
import Derived.Test.YthemdfcokphjeaaDdp
namespace Go.Proofs.Ythemdfcokphjeaa
open Go.RowKit
open Go.NB (Rd Kp Stp Off Dis Rr footR val encU encB digs Ent dknown dat dlast B64 oneB)

set_option maxHeartbeats 1000000 in
theorem law_dcut (w : World) (x y : Int) (a : Option Addr) (n c : Nat) (b : List UInt8) (q : Int) (hx : (Lit.int .u64 x).wf = true) (hy : (Lit.int .u64 y).wf = true) (h : NB.RdB w a n c b) (hq : (Lit.int .u16 q).wf = true) :
    Calls Try.prog 4 #[.int .u64 x, .int .u64 y, .slice a n c, .int .u16 q] w fun e w' => e = .returned (.bool true) ∧ Below w.heap.size w w' := by
  have hbd := Rd.bound h
  have hsz := NB.RdB.size h
  have hxb := bounds_u64 hx
  have hyb := bounds_u64 hy
  have hqb := bounds_u16 hq
  obtain ⟨x, rfl⟩ := Int.eq_ofNat_of_zero_le hxb.1
  obtain ⟨y, rfl⟩ := Int.eq_ofNat_of_zero_le hyb.1
  obtain ⟨q, rfl⟩ := Int.eq_ofNat_of_zero_le hqb.1
  have hx' : B64 x := by unfold B64; omega
  have hy' : B64 y := by unfold B64; omega
  by_cases hn : n ≤ 300
  · have hnz : (n : Int) ≤ 300 := by omega
    have hput : putM (x, y, b) = (encU x ++ encU y ++ encB b, 0) := by simp only [putM]; rw [if_neg (by omega)]
    have hx9 := NB.encU_len hx'
    have hy9 := NB.encU_len hy'
    have hb9 := NB.encU_len (x := b.length) (by omega)
    have hL : (encU x ++ encU y ++ encB b).length ≤ 2000 ∧ 3 ≤ (encU x ++ encU y ++ encB b).length := by simp [encB, encU] at *; omega
    have hshort := fun k hk => get_short hx' hy' (b := b) (by omega) k hk
    have hmore := get_more hx' hy' (b := b) (by omega) 0
    generalize encU x ++ encU y ++ encB b = Z at *
    obtain ⟨hL1, hL2⟩ := hL
    obtain ⟨k, hk⟩ : ∃ k, k = q % Z.length := ⟨_, rfl⟩
    have hkl : k < Z.length := by rw [hk]; exact Nat.mod_lt _ (by omega)
    have hki : ((q : Int) % (Z.length : Int)) = (k : Int) := by rw [hk]; simp
    have hs := hshort k hkl
    have HS := Go.Lib.hid hs; have HM := Go.Lib.hid hmore; have HP := Go.Lib.hid hput
    clear hs hmore hput hshort hk hx hy hq
    have hkz : (k : Int) < (Z.length : Int) := by omega
    have hz3 : (3 : Int) ≤ (Z.length : Int) := by omega
    go_enter Try.func4, Try.ntmps4
    go_wp2_with fail
    refine (awake_any _).mono ?_
    rintro e w1 ⟨rfl, hb1⟩
    go_wp2_with fail
    refine (dput_any _ x y _ _ _ b hx' hy' (h.below hb1)).mono ?_
    rw [HP.out]
    rintro e w2 ⟨a2, c2, rfl, ho2, hb2⟩
    have B2 := NB.bel hb1 hb2 hb1.size
    rw [show (Z, (0 : Int)).1 = Z from rfl] at ho2
    rw [show (Z, (0 : Int)).1.length = Z.length from rfl]
    obtain ⟨a2', c2', e2, hr2, hlo2, _⟩ := NB.rd_of_own ho2
    cases e2
    have hbd2 := Rd.bound hr2
    have hle2 := hr2.le
    go_wp2_with fail
    refine (dget_any _ _ _ _ _ (NB.rdB_cut hr2 k (by omega)) (by omega)).mono ?_
    rintro e w3 ⟨a3, n3, c3, rfl, r3, hb3⟩
    rw [HS.out]
    have ho3 := NB.own_keep ho2 hb3
    have B3 := NB.bel B2 hb3 B2.size
    have hsz3 := Nat.le_trans hb2.size hb3.size
    clear ho2 hr2 hb3 B2 r3 hlo2
    generalize (getM (Z.take k)).1 = r3 at *
    obtain ⟨x3, y3, t3⟩ := r3
    simp only
    have ob := oneB w3 (.cells #[.int .u64 (x3 : Int), .int .u64 (y3 : Int), .slice a3 n3 c3] 25)
    have ho4 := NB.own_keep ho3 ob
    have B4 := NB.bel B3 ob B3.size
    clear ho3 B3 ob
    have hsz4 : w1.heap.size ≤ ((w3.alloc (.cells #[.int .u64 (x3 : Int), .int .u64 (y3 : Int), .slice a3 n3 c3] 25)).alloc (.cells #[.int .u8 0] 5)).heap.size := by
      simp; omega
    go_wp2_with (at_builtin; refine NB.wpList_append_at rfl (.tmp 49) (.tmp 50) 23 rfl w1.heap.size slTB _ _ (Z.map NB.u8v) rfl (NB.own_keep ho4 (oneB _ _)) _ 1 1 [.int .u8 0] rfl (byte_rd _ _ (by simp)) (byte_one _) (by omega) (by unfold maxLen; omega) hsz4 ?_; intro v5 w5 ho5 hg5 hv5; obtain ⟨a5, c5, rfl, hr5, hlo5, _⟩ := NB.rd_of_own ho5)
    have R5 : NB.RdB w5 a5 (Z.length + 1) c5 (Z ++ [0]) := by show Rd 1 _ _ _ _ ((Z ++ [0]).map NB.u8v); rw [List.map_append]; exact hr5
    have B5 : Below w.heap.size w w5 := (B4.alloc B4.size _).grown hg5 (Nat.le_trans hb1.size hsz4) (fun j e => Nat.le_trans hb1.size ((NB.own_keep ho4 (oneB _ (.cells #[.int .u8 0] 5))).lt j e).1)
    refine (dget_any _ _ _ _ _ R5 (by omega)).mono ?_
    rintro e w6 ⟨a6, n6, c6, rfl, r6, hb6⟩
    rw [HM.out]
    have B6 := NB.bel B5 hb6 B5.size
    clear ho5 hg5 hv5 hr5 hlo5 R5 B5 ho4 B4 hb6 r6
    generalize (getM (Z ++ [0])).1 = r6 at *
    obtain ⟨x6, y6, t6⟩ := r6
    simp only
    go_wp2_with fail
    go_ret
    exact ⟨rfl, B6.alloc B6.size _⟩
  · have hnz : ¬ (n : Int) ≤ 300 := by omega
    go_enter Try.func4, Try.ntmps4
    go_wp2_with (go_at_call 8; refine (awake_any _).mono ?_; rintro e w1 ⟨rfl, hb1⟩)
    go_ret
    exact ⟨rfl, hb1⟩
end Go.Proofs.Ythemdfcokphjeaa
