/- The law MsgCut. -/
import Derived.Test.YtadgokegjmigoaaDoorMgw
import Derived.Test.YtadgokegjmigoaaDoorApo
namespace Go.Proofs.YtadgokegjmigoaaDoor
open Go.RowKit Go.Shelf
open Go.NB (Rd Kp Stp Off Dis oneB dB Rw RdU Lp Rr encU encB digs)

set_option maxRecDepth 100000 in
set_option maxHeartbeats 4000000 in
theorem law_mcut (w : World) (hT : Tb w) (m : Mm) (av : Option Addr) (cv : Nat) (ab : Option Addr) (cb : Nat) (q x : Int) (hwf : WfM m) (hR : MsgR w m av cv ab cb) (hq : (Lit.int .u16 q).wf = true) (hx : (Lit.int .u8 x).wf = true) :
    Calls Tryd.prog 7 #[.agg (msgV m av cv ab cb).toArray, .int .u16 q, .int .u8 x] w fun e w' => e = .returned (.bool true) ∧ Below w.heap.size w w' := by
  obtain ⟨x, rfl⟩ : ∃ K : UInt8, x = (K.toNat : Int) := ⟨UInt8.ofNat x.toNat, (NB.u8_of_wf hx).symm⟩
  have hqb := bounds_u16 hq
  obtain ⟨q, rfl⟩ := Int.eq_ofNat_of_zero_le hqb.1
  clear hx hq
  have RB : Rw (w.alloc (.cells (msgV m av cv ab cb).toArray 32)) w.heap.size (msgV m av cv ab cb) 32 := NB.rw_new w _ _ rfl
  have hb0 := oneB w (.cells (msgV m av cv ab cb).toArray 32)
  have hR0 := hR.below hb0
  have HT := Go.Lib.hid hT
  have HWF := Go.Lib.hid hwf
  have cp := fun w hT hR => mput_any w hT m av cv ab cb hR hwf
  have hcut := fun hc n hn => mget_cut (m := m) hc hwf n hn
  have hmore := fun hc => mget_put (m := m) hc hwf [x]
  have hput := fun hc => mput_ok (m := m) hc hwf
  have hno := fun hc => mput_no (m := m) hc
  have hlen : mcheckB m = true → (fbL (frOfM m)).length ≤ 40020 ∧ 0 < (fbL (frOfM m)).length := fun hc => by
    obtain ⟨_, _, hok⟩ := mcheck_parts hc hwf
    have h1 := body_len m hok
    have h2 := fbL_len (frOfM m)
    have h3 : (encU (frOfM m).2.length).length ≤ 9 := NB.encU_len (by show (bodyL m).length < _; omega)
    have h4 : (frOfM m).2.length = (bodyL m).length := rfl
    omega
  obtain ⟨P, hP⟩ : ∃ P, fbL (frOfM m) = P := ⟨_, rfl⟩
  rw [hP] at hcut hmore hput hlen
  rw [if_neg (by simp)] at hmore
  have HCUT := Go.Lib.hid hcut
  have HMORE := Go.Lib.hid hmore
  have HPUT := Go.Lib.hid hput
  have HNO := Go.Lib.hid hno
  have HLEN := Go.Lib.hid hlen
  have HCP := Go.Lib.hid cp
  clear hcut hmore hput hno hlen cp hP hT hwf hR
  obtain ⟨c, hc⟩ : ∃ c, mcheckB m = c := ⟨_, rfl⟩
  have HC := Go.Lib.hid hc
  clear hc
  have hvb := Rd.bound hR0.vec.1
  have hbb := Rd.bound hR0.body
  obtain ⟨kd, bal, slt, shd, sg, cl, sq, ps, cd, vc, bd⟩ := m
  unfold msgV at RB hb0 HCP hR0 ⊢
  simp only [List.toArray] at RB hb0 HCP hR0 hvb hbb ⊢
  go_enter Tryd.func7, Tryd.ntmps7
  go_wp2_with fail
  refine (mawake_any _ (HT.out.grow hb0)).mono ?_
  rintro e w1 ⟨rfl, hb1⟩
  have B1 := NB.bel hb0 hb1 hb0.size
  have RB1 := RB.below hb1
  have R1 := hR0.below hb1
  have d0 := RB1.cell 0 _ rfl
  have d1 := RB1.cell 1 _ rfl
  have d2 := RB1.cell 2 _ rfl
  have d3 := RB1.cell 3 _ rfl
  have d4 := RB1.cell 4 _ rfl
  have d5 := RB1.cell 5 _ rfl
  have d6 := RB1.cell 6 _ rfl
  have d7 := RB1.cell 7 _ rfl
  have d8 := RB1.cell 8 _ rfl
  have d9 := RB1.cell 9 _ rfl
  have d10 := RB1.cell 10 _ rfl
  clear RB hR0 hb1 hb0
  by_cases hv : vc.length ≤ 50
  case neg =>
    have hvz : ¬ (vc.length : Int) ≤ 50 := by omega
    go_wp2_with fail
    go_ret
    exact ⟨rfl, B1⟩
  have hvz : (vc.length : Int) ≤ 50 := by omega
  by_cases hbd : bd.length ≤ 300
  case neg =>
    have hbz : ¬ (bd.length : Int) ≤ 300 := by omega
    go_wp2_with fail
    go_ret
    exact ⟨rfl, B1⟩
  have hbz : (bd.length : Int) ≤ 300 := by omega
  have K := HCP.out w1 (HT.out.grow B1) R1
  clear R1 HCP
  cases c
  · rw [HNO.out (by rw [HC.out]; simp)] at K
    have HK := Go.Lib.hid K
    clear K
    go_wp2_with fail
    refine HK.out.mono ?_
    rintro e w2 ⟨a2, c2, rfl, _, hb2⟩
    simp only [List.length_nil]
    go_wp2_with fail
    go_ret
    exact ⟨rfl, NB.bel B1 hb2 B1.size⟩
  rw [HPUT.out HC.out] at K
  have HK := Go.Lib.hid K
  obtain ⟨hl1, hl2⟩ := HLEN.out HC.out
  clear K
  go_wp2_with fail
  refine HK.out.mono ?_
  rintro e w2 ⟨a2, c2, rfl, ho2, hb2⟩
  unfold NB.OwnB at ho2
  simp only at ho2 ⊢
  obtain ⟨a2', c2', e2, R2, _, _⟩ := NB.rd_of_own ho2
  cases e2
  have R2 : NB.RdB w2 a2 P.length c2 P := R2
  have B2 := NB.bel B1 hb2 B1.size
  obtain ⟨k, hk⟩ : ∃ k, k = q % P.length := ⟨_, rfl⟩
  have hkl : k < P.length := by rw [hk]; exact Nat.mod_lt _ hl2
  have hki : ((q : Int) % (P.length : Int)) = (k : Int) := by rw [hk]; simp
  have hle2 := R2.le
  have hmx2 := R2.max
  have hkc : (k : Int) ≤ (c2 : Int) := by omega
  have hkp : (k : Int) < (P.length : Int) := by omega
  have hp1 : (1 : Int) ≤ (P.length : Int) := by omega
  have hp2 : (P.length : Int) ≤ 40020 := by omega
  have hp0 : ((P.length : Int) == 0) = false := by rw [beq_eq_false_iff_ne]; omega
  clear hk RB1 HK
  go_wp2_with fail
  refine (mget_any w2 (HT.out.grow B2) a2 k c2 (P.take k) (NB.rdB_cut R2 k (by omega)) (by omega)).mono ?_
  rw [HCUT.out HC.out k hkl]
  rintro e w3 ⟨av3, cv3, ab3, cb3, rfl, _, hb3, _, _⟩
  have ho3 := NB.own_keep ho2 hb3
  have B3 := NB.bel B2 hb3 B2.size
  have C3 := NB.bel hb2 hb3 hb2.size
  have hob : ∀ j, (Value.slice a2 P.length c2).ownBlock = some j → w1.heap.size ≤ j := fun j e => (ho2.lt j e).1
  have HOB := Go.Lib.hid hob
  clear hob ho2 hb3 R2 B2 hb2
  unfold msgV mm0
  simp only [List.toArray, List.length_nil]
  have X4 : Below w3.heap.size w3 (w3.alloc (.cells #[.int .i64 0, .int .u64 0, .int .u64 0, .int .i64 0, .int .i64 0, .int .u64 0, .int .u64 0, .int .u64 0, .int .i64 0, .slice av3 0 cv3, .slice ab3 0 cb3] 32)) := oneB w3 _
  have ho4 := NB.own_keep ho3 X4
  have B4 := NB.bel B3 X4 B3.size
  have C4 := NB.bel C3 X4 C3.size
  clear ho3 B3 C3 X4
  have hby : (P.length + 1) * 1 ≤ 140737488355328 := by omega
  have hml : P.length + 1 ≤ maxLen := by unfold maxLen; omega
  go_wp2_with (at_builtin; refine NB.wpList_append_old rfl (.tmp 46) (.tmp 48) 22 rfl w1.heap.size slTB _ P.length (P.map NB.u8v) rfl (NB.own_keep ho4 (oneB _ _)) _ 1 1 [.int .u8 (x.toNat : Int)] rfl (byte_rd _ _ (by simp)) (byte_one _) hby hml (Nat.le_trans C4.size (oneB _ _).size) ?_; intro v6 w6 ho6 hg6 hv6 hold6; obtain ⟨a6, c6, rfl, hr6, hlo6, _⟩ := NB.rd_of_own ho6)
  have hk6 : Kp (fun k => (Value.slice a2 P.length c2).ownBlock = some k) ((w3.alloc (.cells #[.int .i64 0, .int .u64 0, .int .u64 0, .int .i64 0, .int .i64 0, .int .u64 0, .int .u64 0, .int .u64 0, .int .i64 0, .slice av3 0 cv3, .slice ab3 0 cb3] 32)).alloc (.cells #[.int .u8 (x.toNat : Int)] 5)) w6 := (Kp.refl _ _).grown hg6 (fun k e => .inl e)
  have Y5 : Below w.heap.size w ((w3.alloc (.cells #[.int .i64 0, .int .u64 0, .int .u64 0, .int .i64 0, .int .i64 0, .int .u64 0, .int .u64 0, .int .u64 0, .int .i64 0, .slice av3 0 cv3, .slice ab3 0 cb3] 32)).alloc (.cells #[.int .u8 (x.toNat : Int)] 5)) := B4.alloc B4.size _
  have B6 : Below w.heap.size w w6 := Y5.trans (hk6.belowB Y5.size (fun j e => Nat.le_trans B1.size (HOB.out j e)))
  have R6 : NB.RdB w6 a6 (P.length + 1) c6 (P ++ [x]) := by show Rd 1 _ _ _ _ ((P ++ [x]).map NB.u8v); rw [List.map_append]; exact hr6
  clear hr6 hlo6 ho6 hg6 hv6 hold6 hk6 Y5 ho4 C4 B4
  refine (mget_any _ (HT.out.grow B6) _ _ _ _ R6 (by omega)).mono ?_
  rw [HMORE.out HC.out]
  rintro e w7 ⟨av7, cv7, ab7, cb7, rfl, _, hb7, _, _⟩
  have B7 := NB.bel B6 hb7 B6.size
  unfold msgV mm0
  simp only [List.toArray, List.length_nil]
  go_wp2_with fail
  go_ret
  exact ⟨rfl, B7.alloc B7.size _⟩
end Go.Proofs.YtadgokegjmigoaaDoor
