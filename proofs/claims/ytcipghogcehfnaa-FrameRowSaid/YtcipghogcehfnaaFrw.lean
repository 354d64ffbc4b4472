/- Frames: the document's example. -/
import Derived.Test.YtcipghogcehfnaaFrd
import Derived.Test.YtcipghogcehfnaaFrp
import Derived.Test.YtcipghogcehfnaaApo
namespace Go.Proofs.Ytcipghogcehfnaa
open Go.RowKit
open Go.NB (Rd Kp Stp Off Dis Rr encU oneB dB Rw digs)

theorem z1_len : (fbL (1, [])).length = 6 := by rw [fbL_len]; simp [encU, digs]
theorem z1_head : ∃ t, fbL (1, []) = 0 :: 1 :: t := ⟨four (NB.Crc.sumR [[0, 1]]), by rw [fbL_eq]; simp [encU, digs]⟩
theorem z1_get : fgetM (fbL (1, [])) = ((1, []), 6, 0) := by
  have := fget_put (1, []) (by simp) []
  rw [List.append_nil, z1_len] at this
  exact this
theorem z1_all : fallM (fbL (1, []) ++ [7]) = ([(1, [])], 6) := by
  have h := fget_put (1, []) (by simp) [7]
  rw [z1_len] at h
  have h7 : (fgetM [7]).2.2 ≠ 0 := by
    have : Rr.uint ⟨[7], 0⟩ = (⟨[], 10⟩, 0) := by
      rw [Rr.uint_step, if_neg (by decide), Rr.take_short (by decide)]
      simp [NB.val]
    simp [fgetM, this]
  rw [fall_ok h, List.drop_left' z1_len, fall_no h7]
  rfl

set_option maxHeartbeats 2000000 in
theorem fawake_any (w : World) : Calls Try.prog 9 #[] w fun e w' => e = .returned (.bool true) ∧ Below w.heap.size w w' := by
  have cp := fput_any w 1 none 0 0 [] Rd.nil_mk
  rw [fput_is (f := (1, [])) (by simp)] at cp
  obtain ⟨t, hZt⟩ := z1_head
  have hlz := z1_len
  have hg := z1_get
  have ha := z1_all
  generalize fbL (1, []) = Z at *
  have HZT := Go.Lib.hid hZt; have HG := Go.Lib.hid hg; have HA := Go.Lib.hid ha
  clear hZt hg ha
  have CP := Go.Lib.hid cp; clear cp
  have HLZ := Go.Lib.hid hlz; clear hlz
  go_enter Try.func9, Try.ntmps9
  go_wp2_with fail
  refine CP.out.mono ?_
  rintro e w1 ⟨a1, c1, rfl, ho1, hb1⟩
  unfold NB.OwnB at ho1
  simp only [HLZ.out] at ho1 ⊢
  obtain ⟨a1', c1', e1, hr1, hlo1, _⟩ := NB.rd_of_own ho1
  cases e1
  go_wp2_with fail
  refine (fget_any _ _ _ _ Z hr1 (by omega)).mono ?_
  rw [HG.out]
  rintro e w2 ⟨a2, n2, c2, rfl, hr2, hb2, hlo2⟩
  simp only at hr2
  have ob := oneB w2 (.cells #[.int .u8 ((1 : UInt8).toNat : Int), .slice a2 n2 c2] 25)
  have rowF := NB.rw_new w2 [.int .u8 ((1 : UInt8).toNat : Int), .slice a2 n2 c2] 25 rfl
  simp only [List.toArray] at rowF
  have ho2 := NB.own_keep (NB.own_keep ho1 hb2) ob
  have B2 := NB.bel (NB.bel hb1 hb2 hb1.size) ob (Nat.le_trans hb1.size hb2.size)
  have hown1 : ∀ k, (Value.slice a1 6 c1).ownBlock = some k → w.heap.size ≤ k ∧ k < w2.heap.size := fun k e => ⟨(ho1.lt k e).1, Nat.lt_of_lt_of_le (ho1.lt k e).2 hb2.size⟩
  have HOWN := Go.Lib.hid hown1
  have rowF2 := rowF.below (oneB _ (.cells #[.int .u8 7] 5))
  clear ho1 hb1 hb2 ob hr2 hlo2 hr1 hlo1 hown1 rowF
  go_wp2_with (at_builtin; refine NB.wpList_append_old rfl (.tmp 20) (.tmp 21) 22 rfl w.heap.size slTB _ 6 (Z.map NB.u8v) rfl (NB.own_keep ho2 (oneB _ _)) _ 1 1 [.int .u8 7] rfl (byte_rd _ _ (by simp)) (byte_one _) (by omega) (by unfold maxLen; omega) (Nat.le_trans B2.size (oneB _ _).size) ?_; intro v3 w3 ho3 hg3 hv3 hold3; obtain ⟨a3, c3, rfl, hr3, hlo3, _⟩ := NB.rd_of_own ho3)
  have hk3 : Kp (fun k => (Value.slice a1 6 c1).ownBlock = some k) ((w2.alloc (.cells #[.int .u8 1, .slice a2 n2 c2] 25)).alloc (.cells #[.int .u8 7] 5)) w3 := (Kp.refl _ _).grown hg3 (fun k e => .inl e)
  have rowF3 := rowF2.keep hk3 (fun e => by have := (HOWN.out _ e).2; omega)
  have B3 : Below w.heap.size w w3 := (B2.alloc B2.size (.cells #[.int .u8 7] 5)).trans (hk3.belowB (by have := B2.size; simp at this ⊢; omega) (fun k e => (HOWN.out k e).1))
  have R3 : NB.RdB w3 a3 7 c3 (Z ++ [7]) := by show Rd 1 _ _ _ _ ((Z ++ [7]).map NB.u8v); rw [List.map_append]; exact hr3
  have old3 := hold3 a1 c1 rfl
  clear rowF2 hk3 ho3 hg3 hv3 hold3 hr3 hlo3 B2 ho2
  refine (fall_any _ _ _ _ _ R3 (by omega)).mono ?_
  rw [HA.out]
  rintro e w4 ⟨a4, c4, l4, rfl, hr4, _, hl4, hb4⟩
  have hn4 : l4.length = 1 := by have := congrArg List.length hl4; simpa using this
  have old4 := Rd.below old3 hb4
  have B4 := NB.bel B3 hb4 B3.size
  have rowF4 := rowF3.below hb4
  rw [hn4] at hr4 ⊢
  obtain ⟨d0, d1, _⟩ := NB.rw2 rowF4
  rw [HZT.out] at old4
  obtain ⟨b1, o1, rfl, hc1⟩ := Rd.pos old4 (by omega)
  have q0 : w4.cell? ⟨b1, o1, none⟩ = some (.int .u8 0) := hc1 0 _ rfl
  have q1 : w4.cell? ⟨b1, o1 + 1, none⟩ = some (.int .u8 1) := hc1 1 _ rfl
  clear hc1 old4 old3 R3 B3 rowF3 rowF4 hb4 hr4 hl4 HOWN
  go_wp2_with fail
  go_ret
  exact ⟨rfl, B4⟩
end Go.Proofs.Ytcipghogcehfnaa
