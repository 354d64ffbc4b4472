/- The walk for the statement FrameSpoils. -/
import Derived.Test.YtcipghogcehfnaaFrw
import Derived.Test.YtcipghogcehfnaaOst
namespace Go.Proofs.Ytcipghogcehfnaa
open Go.RowKit
open Go.NB (Rd Kp Stp Off Dis Rr encU oneB dB Rw digs)

theorem fget_set0 (f : Fr) (h : f.2.length ≤ 65535) (i : Nat) (h1 : (encU f.2.length).length ≤ i) (h2 : i < (fbL f).length) (x : UInt8) :
    (fgetM ((fbL f).set i ((fbL f).getD i 0 ^^^ x))).2.2 = if x = 0 then 0 else 14 := by
  by_cases hx : x = 0
  · subst hx
    have e : (fbL f).set i ((fbL f).getD i 0 ^^^ 0) = fbL f := by
      rw [UInt8.xor_zero, List.getD_eq_getElem?_getD, List.getElem?_eq_getElem h2, Option.getD_some, List.set_getElem_self]
    have := fget_put f h []
    rw [List.append_nil] at this
    rw [e, this, if_pos rfl]
  · rw [if_neg hx]
    exact fget_spoil f h i h1 h2 _ (fun e => hx ((NB.xor_self_iff _ _).1 e.symm))
theorem fbL_head (f : Fr) (h : f.2.length ≤ 65535) : (fbL f)[0]? = some (UInt8.ofNat ((encU f.2.length).length - 1)) := by
  rw [fbL_eq]; simp [encU]

set_option maxHeartbeats 2000000 in
theorem law_fspoils (w : World) (k : Int) (a : Option Addr) (n c : Nat) (b : List UInt8) (q x : Int) (hk : (Lit.int .u8 k).wf = true) (h : NB.RdB w a n c b) (hq : (Lit.int .u16 q).wf = true) (hx : (Lit.int .u8 x).wf = true) :
    Calls Try.prog 8 #[.int .u8 k, .slice a n c, .int .u16 q, .int .u8 x] w fun e w' => e = .returned (.bool true) ∧ Below w.heap.size w w' := by
  have hsz := NB.RdB.size h
  obtain ⟨k, rfl⟩ : ∃ K : UInt8, k = (K.toNat : Int) := ⟨UInt8.ofNat k.toNat, (NB.u8_of_wf hk).symm⟩
  obtain ⟨x, rfl⟩ : ∃ K : UInt8, x = (K.toNat : Int) := ⟨UInt8.ofNat x.toNat, (NB.u8_of_wf hx).symm⟩
  have hqb := bounds_u16 hq
  obtain ⟨q, rfl⟩ := Int.eq_ofNat_of_zero_le hqb.1
  by_cases hn : n ≤ 300
  · have hnz : (n : Int) ≤ 300 := by omega
    have cp := fun w h => fput_any w k a n c b h
    rw [fput_is (f := (k, b)) (by simp only; omega)] at cp
    have hlen := fbL_len (k, b)
    have hhd := fbL_head (k, b) (by simp only; omega)
    have hset := fun i h1 h2 => fget_set0 (k, b) (by simp only; omega) i h1 h2 x
    have hE : (encU b.length).length ≤ 9 := NB.encU_len (by omega)
    have hE1 : 1 ≤ (encU b.length).length := by simp [encU]
    simp only at hlen hhd hset
    generalize (encU b.length).length = E0 at *
    obtain ⟨E, rfl⟩ : ∃ E, E0 = E + 1 := ⟨E0 - 1, by omega⟩
    generalize fbL (k, b) = Z at *
    have hZE : E + 6 ≤ Z.length := by omega
    have hZ2 : Z.length ≤ 400 := by omega
    obtain ⟨i, hi⟩ : ∃ i, i = E + 1 + q % (Z.length - (E + 1)) := ⟨_, rfl⟩
    have hi1 : E + 1 ≤ i := by omega
    have hi2 : i < Z.length := by have := Nat.mod_lt q (show 0 < Z.length - (E + 1) by omega); omega
    have hii : (((E : Int) + 1) + ((q : Int) % ((Z.length : Int) - ((E : Int) + 1)))) = (i : Int) := by
      rw [hi, show ((Z.length : Int) - ((E : Int) + 1)) = ((Z.length - (E + 1) : Nat) : Int) by omega]
      simp
    have hs := hset i hi1 hi2
    have hEw : (UInt8.ofNat E).toNat = E := by rw [UInt8.toNat_ofNat']; omega
    have hzi : (i : Int) < (Z.length : Int) := by omega
    have HS := Go.Lib.hid hs; have HHD := Go.Lib.hid hhd; have HCP := Go.Lib.hid cp
    have HSZ := Go.Lib.hid (And.intro hsz hlen)
    clear hs hhd cp hset hi hk hx hq hlen hsz
    have hz6 : (6 : Int) ≤ (Z.length : Int) := by omega
    have hz7 : (E : Int) + 1 < (Z.length : Int) := by omega
    go_enter Try.func8, Try.ntmps8
    go_wp2_with fail
    refine (fawake_any _).mono ?_
    rintro e w1 ⟨rfl, hb1⟩
    go_wp2_with fail
    refine (HCP.out _ (h.below hb1)).mono ?_
    rintro e w2 ⟨a2, c2, rfl, ho2, hb2⟩
    unfold NB.OwnB at ho2
    simp only at ho2 ⊢
    have B2 := NB.bel hb1 hb2 hb1.size
    obtain ⟨g, cc, e2, hbg, hlg, hci, hfi, _, _, ho3⟩ := NB.own_setB ho2 i hi2 (.int .u8 ((Z.getD i 0 ^^^ x).toNat : Int))
    cases e2
    obtain ⟨a2', c2', e2, hr2, hlo2, _⟩ := NB.rd_of_own ho2
    cases e2
    have hc0 : w2.cell? ⟨g, 0, none⟩ = some (.int .u8 (E : Int)) := by
      have := hr2.cell g 0 rfl 0 _ (by rw [List.getElem?_map, HHD.out]; rfl)
      rw [NB.u8v, Nat.add_sub_cancel, hEw] at this
      exact this
    rw [List.getElem?_map, List.getElem?_eq_getElem hi2, Option.map_some, NB.u8v] at hci
    have hgd : Z.getD i 0 = Z[i] := by rw [List.getD_eq_getElem?_getD, List.getElem?_eq_getElem hi2]; rfl
    rw [← hgd] at hci
    have hxr := NB.xor_u8 (Z.getD i 0) x
    have HO3 := Go.Lib.hid ho3
    have hle2 := hr2.le
    have hmx2 := hr2.max
    have B3 : Below w.heap.size w (w2.setCell ⟨g, i, none⟩ (.int .u8 ((Z.getD i 0 ^^^ x).toNat : Int))) := B2.setCell (p := ⟨g, i, none⟩) (Nat.le_trans hb1.size hbg) _
    have R3 : NB.RdB (w2.setCell ⟨g, i, none⟩ (.int .u8 ((Z.getD i 0 ^^^ x).toNat : Int))) (some ⟨g, 0, none⟩) Z.length c2 (Z.set i (Z.getD i 0 ^^^ x)) := by
      obtain ⟨a3, c3, e3, hr3, _⟩ := NB.rd_of_own ho3
      cases e3
      show Rd 1 _ _ _ _ ((Z.set i (Z.getD i 0 ^^^ x)).map NB.u8v)
      rw [List.map_set]
      exact hr3
    have hxn : ((Z.getD i 0 ^^^ x).toNat : Int) = (((Z.getD i 0).toNat ^^^ x.toNat : Nat) : Int) := by rw [UInt8.toNat_xor]
    rw [hxn] at B3 R3 hxr
    have HR3 := Go.Lib.hid R3
    clear ho3 R3 HO3 hxn hr2 hlo2 ho2 hgd hb1 hb2 h hEw B2
    generalize Z.getD i 0 = y at *
    have HB3 := Go.Lib.hid B3; clear B3
    go_wp2_with fail
    refine (fget_any _ _ _ _ _ HR3.out (by omega)).mono ?_
    rintro e w4 ⟨a4, n4, c4, rfl, _, hb4, _⟩
    have B4 := NB.bel HB3.out hb4 HB3.out.size
    clear hb4 HR3 HB3 hxr hci hfi hii hc0
    have hS := HS.out; clear HS
    generalize fgetM (Z.set i (y ^^^ x)) = R at *
    obtain ⟨⟨rk, rb⟩, rn, re⟩ := R
    simp only at hS ⊢
    by_cases hx0 : x = 0
    · subst hx0
      rw [if_pos rfl] at hS
      subst hS
      go_wp2_with fail
      go_ret
      exact ⟨by simp, B4.alloc B4.size _⟩
    · rw [if_neg hx0] at hS
      subst hS
      have hx1 : ¬ (x.toNat : Int) = 0 := fun e => hx0 (by
        have : x.toNat = 0 := by omega
        exact UInt8.toNat_inj.1 this)
      have hx2 : ((x.toNat : Int) == 0) = false := by simpa using hx1
      go_wp2_with fail
      go_ret
      exact ⟨by simp, B4.alloc B4.size _⟩
  · have hnz : ¬ (n : Int) ≤ 300 := by omega
    go_enter Try.func8, Try.ntmps8
    go_wp2_with (go_at_call 9; refine (fawake_any _).mono ?_; rintro e w1 ⟨rfl, hb1⟩)
    go_ret
    exact ⟨rfl, hb1⟩
end Go.Proofs.Ytcipghogcehfnaa
