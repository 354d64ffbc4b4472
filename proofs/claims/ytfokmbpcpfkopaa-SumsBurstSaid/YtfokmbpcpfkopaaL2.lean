/- Proves the statement SumsBurstSaid: for every input the law SumsBurst returns true and leaves its arguments as they were. No condition. -/
import Derived.Test.YtfokmbpcpfkopaaT5
import Derived.Test.YtfokmbpcpfkopaaBurst
import Derived.Test.YtfokmbpcpfkopaaOpen
namespace Go.Proofs.Ytfokmbpcpfkopaa
open Go.ChangeShapes Go.WideShapes Go.ChangeAt Go.RowKit
open Go.ChangeMaps (open_string shut_string)
open Go.NB.Crc (sumR bitAt turned burst_wrong)
open Go.NB (Rd)

theorem slT34 : NB.SlT Try.prog 34 3 (.int .i64 0) 1 8 :=
  ⟨Try.underlying34, info_parts (by kernel_rfl), rfl, by omega⟩

def bitsV (n m : Nat) : List Value := (List.range m).map fun t => Value.int .i64 (bitAt n t : Int)
theorem bitsV_len (n m : Nat) : (bitsV n m).length = m := by simp [bitsV]
theorem bitsV_snoc (n m : Nat) : bitsV n m ++ [.int .i64 (bitAt n m : Int)] = bitsV n (m + 1) := by
  simp [bitsV, List.range_succ]
theorem bitsV_get (n m t : Nat) (h : t < m) : (bitsV n m)[t]? = some (.int .i64 (bitAt n t : Int)) := by
  simp [bitsV, h]

theorem test_bit (u q : Nat) (hu : u < 4294967296) : (bits .and .u32 ((u : Int) / 2 ^ q) 1 == 1) = u.testBit q := by
  have e : ((u : Int) / 2 ^ q) = ((u / 2 ^ q : Nat) : Int) := by simp
  have hl : u / 2 ^ q < 4294967296 := Nat.lt_of_le_of_lt (Nat.div_le_self _ _) hu
  rw [e, show bits .and .u32 ((u / 2 ^ q : Nat) : Int) 1 = ((u / 2 ^ q &&& 1 : Nat) : Int) from u32_and_nat _ 1 hl (by omega), nat_mask1]
  rw [Nat.testBit_eq_decide_div_mod_eq]
  rw [Bool.eq_iff_iff]; simp; omega
theorem xor_bit (v : UInt8) (p : Nat) : bits .xor .u8 (v.toNat : Int) (2 ^ (p % 8) % 256) = ((UInt8.ofNat (v.toNat ^^^ 2 ^ (p % 8))).toNat : Int) := by
  have hv := v.toNat_lt
  have hp : 2 ^ (p % 8) < 2 ^ 8 := Nat.pow_lt_pow_right (by omega) (by omega)
  have hx : v.toNat ^^^ 2 ^ (p % 8) < 2 ^ 8 := Nat.xor_lt_two_pow (by omega) hp
  have e : ((2 : Int) ^ (p % 8) % 256) = ((2 ^ (p % 8) : Nat) : Int) := by
    rw [show ((2 : Int) ^ (p % 8)) = ((2 ^ (p % 8) : Nat) : Int) by simp]
    exact Int.emod_eq_of_lt (Int.natCast_nonneg _) (show ((2 ^ (p % 8) : Nat) : Int) < ((256 : Nat) : Int) from Int.ofNat_lt.2 hp)
  rw [e, u8_xor_nat _ _ (by omega) (by omega), UInt8.toNat_ofNat', Nat.mod_eq_of_lt hx]
theorem bitAt_lo (n t : Nat) (h : t < 8 * n) : (8 * (t / 8 : Nat) + (t % 8 : Nat) : Int) = (bitAt n t : Int) := by
  unfold bitAt; rw [if_pos h]; omega
theorem row_next {B : Nat} {w3 wr w' : World} {e : TypeId} {v : Value} {n : Nat} {xs : List Value} {o : Obj} (hb : Below B w3 wr) (hB : B ≤ w3.heap.size) (hrow : wr.ownsRow B e 1 v n xs) (hg : (wr.alloc o).grownBy w' v.ownBlock) : Below B w3 w' :=
  (hb.alloc (Nat.le_trans hB hb.size) o).grown hg (Nat.le_trans (Nat.le_trans hB hb.size) (by simp)) fun k hk => (hrow.lt k hk).1

set_option maxHeartbeats 2000000 in
theorem law2_core (w : World) (a : Option Addr) (c : Nat) (bs cw : List UInt8) (m u : Nat) (h : NB.RdB w a bs.length c bs) (hm : m ≤ 65535) (hu : u < 4294967296) (h300 : bs.length ≤ 300)
    (ecw : sealedL bs = cw) (lcw : cw.length = bs.length + 4) (rcw : rightL cw = true) (hu0 : u ≠ 0) (k : Nat) (hk : k = m % (8 * bs.length + 1)) (hwrong : rightL (turned cw bs.length k u 32) = false) :
    Calls Try.prog 4 #[.slice a bs.length c, .int .u16 (m : Int), .int .u32 (u : Int)] w fun e w' => e = .returned (.bool true) ∧ Below w.heap.size w w' := by
  have hbd := Rd.bound h
  have E := Go.Lib.hid ecw; have L := Go.Lib.hid lcw
  have hu1 : ((u : Int) == 0) = false := beq_eq_false_iff_ne.2 (by omega)
  have hkl : k ≤ 8 * bs.length := by have := Nat.mod_lt m (show 0 < 8 * bs.length + 1 by omega); omega
  have hmod : 8 * (cw.length : Int) - 31 = ((8 * bs.length + 1 : Nat) : Int) := by omega
  have hki : (m : Int) % (8 * (cw.length : Int) - 31) = (k : Int) := by rw [hmod, hk]; rfl
  have e4 : ((cw.length : Int) != (bs.length : Int) + 4) = false := by rw [lcw]; simp
  have lc1 : cw.length ≤ 304 := by omega
  have lc2 : 4 ≤ cw.length := by omega
  clear ecw lcw hk hmod
  go_enter Try.func4, Try.ntmps4
  go_wp2_with (first
    | (go_at_call 8; refine (awake_any _).mono ?_; rintro e w1 ⟨rfl, hb1⟩))
  refine (sealed_any _ _ _ _ _ (Rd.below h hb1) (by omega)).mono ?_
  rw [E.out]
  rintro e w2 ⟨a2, c2, rfl, ho2, hb2⟩
  obtain ⟨g, cap, e2⟩ := NB.own_pos ho2 (by omega)
  cases e2
  have B2 : Below w.heap.size w w2 := hb1.trans (hb2.mono hb1.size)
  have ho2' := NB.own_mono ho2 hb1.size
  obtain ⟨a2', c2', e2', hr2, hf2, _⟩ := NB.rd_of_own ho2; cases e2'
  clear hb2 ho2 hb1 hf2
  go_wp2_with fail
  refine (right_any _ _ _ _ _ hr2 (by omega)).mono ?_
  rw [rcw]
  rintro e w3 ⟨rfl, hb3⟩
  go_wp2
  rw [hki]
  have hown := NB.own_keep ho2' hb3
  have hgl := hown.lt g rfl
  have B3 : Below w.heap.size w w3 := B2.trans (hb3.mono B2.size)
  clear hki hr2 ho2' hb3 B2 e4
  go_loopw [11, 12] (fun v i wr => ∃ q : Nat, q ≤ bs.length ∧ i = .int .i64 q ∧ wr.ownsRow w3.heap.size 3 1 v (8 * q) (bitsV bs.length (8 * q)) ∧ Below w3.heap.size w3 wr) (fun _ i _ => bs.length - (intOf i).toNat)
  case atStart => exact ⟨0, by omega, rfl, World.ownsRow_nil _ _ _ _, Below.refl _ _⟩
  case round =>
    obtain ⟨q, hq, rfl, hrow, hbr⟩ := hrel
    by_cases hqn : q < bs.length
    · go_wp2
      obtain ⟨wo, hwo⟩ : ∃ wo, wo = wr := ⟨_, rfl⟩
      go_loopw [11, 13] (fun v j wr => ∃ p : Nat, p ≤ 8 ∧ j = .int .i64 p ∧ wr.ownsRow w3.heap.size 3 1 v (8 * q + p) (bitsV bs.length (8 * q + p)) ∧ Below w3.heap.size w3 wr) (fun _ i _ => 8 - (intOf i).toNat)
      case atStart => exact ⟨0, by omega, rfl, hrow, hbr⟩
      case round =>
        obtain ⟨p, hp, rfl, hrow2, hbr2⟩ := hrel
        by_cases hp8 : p < 8
        · go_wp2_with (at_builtin; with_reducible refine NB.wpList_append_rd rfl (.tmp 68) (.tmp 73) 34 rfl w3.heap.size slT34 _ (8 * q + p) _ rfl (hrow2.alloc _) (some ⟨wr.heap.size, 0, none⟩) 1 1 _ rfl (NB.rd_new wr _ 3 1 rfl (by unfold maxLen; omega) rfl) ?_ ?_ ?_ ?_ ?_)
          case refine_1 => rfl
          case refine_2 => omega
          case refine_3 => unfold maxLen; omega
          case refine_4 => have := hbr2.size; simp; omega
          intro v' w' ho hg
          have hb' := row_next hbr2 (Nat.le_refl _) hrow2 hg
          rw [show (8 * (q : Int) + (p : Int)) = (bitAt bs.length (8 * q + p) : Int) by unfold bitAt; rw [if_pos (by omega)]; omega, bitsV_snoc] at ho
          clear hg hrow2 hbr2 hrow hbr
          go_wp2
          go_roundw
          case rel => exact ⟨p + 1, by omega, by go_num, ho, hb'⟩
          case measure => simp [intOf]; omega
        · obtain rfl : p = 8 := by omega
          go_wp2
          go_roundw
          case rel => exact ⟨q + 1, by omega, by go_num, hrow2, hbr2⟩
          case measure => simp [intOf]; omega
    · obtain rfl : q = bs.length := by omega
      go_wp2
      go_loopw [11, 14] (fun v i wr => ∃ r : Int, ∃ q : Nat, (q : Int) = 3 - r ∧ -1 ≤ r ∧ r ≤ 3 ∧ i = .int .i64 r ∧ wr.ownsRow w3.heap.size 3 1 v (8 * bs.length + 8 * q) (bitsV bs.length (8 * bs.length + 8 * q)) ∧ Below w3.heap.size w3 wr) (fun _ i _ => (intOf i + 1).toNat)
      case atStart => exact ⟨3, 0, rfl, by omega, by omega, rfl, hrow, hbr⟩
      case round =>
        clear hrow hbr
        obtain ⟨r, q, hq, hr1, hr3, rfl, hrow, hbr⟩ := hrel
        have HQ := Go.Lib.hid hq
        by_cases hqn : 0 ≤ r
        · have hq4 : q ≤ 3 := by omega
          clear hq
          go_wp2
          obtain ⟨wo, hwo⟩ : ∃ wo, wo = wr := ⟨_, rfl⟩
          go_loopw [11, 15] (fun v j wr => ∃ p : Nat, p ≤ 8 ∧ j = .int .i64 p ∧ wr.ownsRow w3.heap.size 3 1 v (8 * bs.length + 8 * q + p) (bitsV bs.length (8 * bs.length + 8 * q + p)) ∧ Below w3.heap.size w3 wr) (fun _ i _ => 8 - (intOf i).toNat)
          case atStart => exact ⟨0, by omega, rfl, hrow, hbr⟩
          case round =>
            obtain ⟨p, hp, rfl, hrow2, hbr2⟩ := hrel
            by_cases hp8 : p < 8
            · go_wp2_with (at_builtin; with_reducible refine NB.wpList_append_rd rfl (.tmp 83) (.tmp 91) 34 rfl w3.heap.size slT34 _ (8 * bs.length + 8 * q + p) _ rfl (hrow2.alloc _) (some ⟨wr.heap.size, 0, none⟩) 1 1 _ rfl (NB.rd_new wr _ 3 1 rfl (by unfold maxLen; omega) rfl) ?_ ?_ ?_ ?_ ?_)
              case refine_1 => rfl
              case refine_2 => omega
              case refine_3 => unfold maxLen; omega
              case refine_4 => have := hbr2.size; simp; omega
              intro v' w' ho hg
              have hb' := row_next hbr2 (Nat.le_refl _) hrow2 hg
              have hq := HQ.out
              rw [show (8 * ((bs.length : Int) + r) + (p : Int)) = (bitAt bs.length (8 * bs.length + 8 * q + p) : Int) by unfold bitAt; rw [if_neg (by omega)]; omega, bitsV_snoc] at ho
              clear hg hrow2 hbr2 hrow hbr hq
              go_wp2
              go_roundw
              case rel => exact ⟨p + 1, by omega, by go_num, ho, hb'⟩
              case measure => simp [intOf]; omega
            · obtain rfl : p = 8 := by omega
              go_wp2
              go_roundw
              case rel => exact ⟨r - 1, q + 1, by have := HQ.out; omega, by omega, by omega, by go_num, hrow2, hbr2⟩
              case measure => simp [intOf]; omega
        · obtain rfl : r = -1 := by omega
          obtain rfl : q = 4 := by omega
          clear hq
          go_wp2
          replace hrow : wr.ownsRow w3.heap.size 3 1 u11 (8 * bs.length + 32) (bitsV bs.length (8 * bs.length + 32)) := hrow
          have hrd := NB.rd_of_own hrow
          obtain ⟨gb, cb, eb⟩ := NB.own_pos hrow (by omega)
          subst eb
          have hgb := hrow.lt gb rfl
          have hown2 := NB.own_keep hown hbr
          have B4 := B3.trans (hbr.mono B3.size)
          have hwg : w.heap.size ≤ g := hgl.1
          go_loopw [16] (fun i wx => ∃ q : Nat, q ≤ 32 ∧ i = .int .i64 q ∧ wx.ownsRow w.heap.size 5 1 (.slice (some ⟨g, 0, none⟩) cw.length c2) cw.length ((turned cw bs.length k u q).map NB.u8v) ∧ wx.ownsRow w3.heap.size 3 1 (.slice (some ⟨gb, 0, none⟩) (8 * bs.length + 32) cb) (8 * bs.length + 32) (bitsV bs.length (8 * bs.length + 32)) ∧ Below w.heap.size w wx) (fun i _ => 32 - (intOf i).toNat)
          case atStart => exact ⟨0, by omega, rfl, hown2, hrow, B4⟩
          case round =>
            clear hrow hbr hown2 B4 hrd
            obtain ⟨q, hq, rfl, hc, hrow, hb⟩ := hrel
            by_cases hq32 : q < 32
            · by_cases hbit : u.testBit q = true
              · have ht : turned cw bs.length k u (q + 1) = NB.Crc.flip (turned cw bs.length k u q) (bitAt bs.length (k + q)) := by show (if u.testBit q then _ else _) = _; rw [if_pos hbit]
                have htb := test_bit u q hu
                rw [hbit] at htb
                have hcb : wr.cell? ⟨gb, k + q, none⟩ = some (.int .i64 (bitAt bs.length (k + q) : Int)) := by
                  rw [hrow.cellAt (k + q) (by omega)]; exact bitsV_get _ _ _ (by omega)
                have hbl := NB.Crc.bitAt_lt bs.length (k + q) (by omega)
                generalize hbp : bitAt bs.length (k + q) = bp at *
                have L2 := L.out
                have hbl2 : bp / 8 < cw.length := by omega
                have htl : (turned cw bs.length k u q).length = cw.length := NB.Crc.turned_length _ _ _ _ _
                have hcc : wr.cell? ⟨g, bp / 8, none⟩ = some (.int .u8 (((turned cw bs.length k u q).getD (bp / 8) 0).toNat : Int)) := by
                  rw [hc.cellAt (bp / 8) (by omega)]; simp [NB.u8v, List.getD, htl, hbl2]
                have hfz := hc.frozenAt (bp / 8)
                have hxb := xor_bit ((turned cw bs.length k u q).getD (bp / 8) 0) bp
                have hst := hc.stored (bp / 8) (.int .u8 ((UInt8.ofNat (((turned cw bs.length k u q).getD (bp / 8) 0).toNat ^^^ 2 ^ (bp % 8))).toNat : Int))
                have hset : ((turned cw bs.length k u q).map NB.u8v).set (bp / 8) (.int .u8 ((UInt8.ofNat (((turned cw bs.length k u q).getD (bp / 8) 0).toNat ^^^ 2 ^ (bp % 8))).toNat : Int)) = (turned cw bs.length k u (q + 1)).map NB.u8v := by
                  rw [ht]; unfold NB.Crc.flip; rw [List.map_set]; rfl
                rw [hset] at hst
                obtain ⟨hc2, hgr⟩ := hst
                have hrow' := hrow.kept hgr (.inr (by have := (hrow.lt gb rfl).1; simp [Value.ownBlock]; omega))
                have hb' := hb.setCell (p := ⟨g, bp / 8, none⟩) hwg (.int .u8 ((UInt8.ofNat (((turned cw bs.length k u q).getD (bp / 8) 0).toNat ^^^ 2 ^ (bp % 8))).toNat : Int))
                generalize UInt8.ofNat (((turned cw bs.length k u q).getD (bp / 8) 0).toNat ^^^ 2 ^ (bp % 8)) = d at *
                generalize (turned cw bs.length k u q).getD (bp / 8) 0 = v at *
                have HBP := Go.Lib.hid hbp
                clear hbp L2 ht hset hgr htl hc hrow hb
                go_wp2
                go_round
                case rel => exact ⟨q + 1, by omega, by go_num, hc2, hrow', hb'⟩
                case measure => simp [intOf]; omega
              · have htb := test_bit u q hu
                rw [Bool.not_eq_true] at hbit
                rw [hbit] at htb
                have ht : turned cw bs.length k u (q + 1) = turned cw bs.length k u q := by show (if u.testBit q then _ else _) = _; rw [hbit]; rfl
                rw [← ht] at hc
                clear ht
                go_wp2
                go_round
                case rel => exact ⟨q + 1, by omega, by go_num, hc, hrow, hb⟩
                case measure => simp [intOf]; omega
            · obtain rfl : q = 32 := by omega
              go_wp2_with fail
              obtain ⟨a5, c5, e5, hr5, hf5, _⟩ := NB.rd_of_own hc; cases e5
              refine (right_any _ _ _ _ _ hr5 (by omega)).mono ?_
              rw [hwrong]
              rintro e w6 ⟨rfl, hb6⟩
              have B6 := hb.trans (hb6.mono hb.size)
              clear hb6
              go_wp2
              go_ret
              exact ⟨rfl, B6⟩

theorem right_sealed' (l : List UInt8) : rightL (sealedL l) = true := by
  unfold rightL
  have e : (sealedL l).length = l.length + 4 := by simp [sealedL, four]
  have t : (sealedL l).take l.length = l := by simp [sealedL]
  rw [e, Nat.add_sub_cancel, t]
  simp
theorem wrong_burst (bs : List UInt8) (k u : Nat) (hk : k ≤ 8 * bs.length) (hu : u < 4294967296) (h0 : u ≠ 0) : rightL (turned (sealedL bs) bs.length k u 32) = false := by
  have e : (turned (sealedL bs) bs.length k u 32).length = bs.length + 4 := by rw [NB.Crc.turned_length]; simp [sealedL, four]
  have hw := burst_wrong bs k u hk hu h0
  cases hr : rightL (turned (sealedL bs) bs.length k u 32) with
  | false => rfl
  | true =>
    exfalso
    unfold rightL at hr
    rw [e, Nat.add_sub_cancel] at hr
    simp only [Bool.and_eq_true, beq_iff_eq] at hr
    exact hw hr.2

set_option maxHeartbeats 2000000 in
theorem law2_zero (w : World) (a : Option Addr) (c : Nat) (bs cw : List UInt8) (m : Nat) (h : NB.RdB w a bs.length c bs) (h300 : bs.length ≤ 300)
    (ecw : sealedL bs = cw) (lcw : cw.length = bs.length + 4) (rcw : rightL cw = true) :
    Calls Try.prog 4 #[.slice a bs.length c, .int .u16 (m : Int), .int .u32 0] w fun e w' => e = .returned (.bool true) ∧ Below w.heap.size w w' := by
  have hbd := Rd.bound h
  have E := Go.Lib.hid ecw
  have e4 : ((cw.length : Int) != (bs.length : Int) + 4) = false := by rw [lcw]; simp
  have e5 : ((cw.length : Int) == (bs.length : Int) + 4) = true := by rw [lcw]; simp
  have lc1 : cw.length ≤ 304 := by omega
  clear ecw lcw
  go_enter Try.func4, Try.ntmps4
  go_wp2_with (first
    | (go_at_call 8; refine (awake_any _).mono ?_; rintro e w1 ⟨rfl, hb1⟩))
  refine (sealed_any _ _ _ _ _ (Rd.below h hb1) (by omega)).mono ?_
  rw [E.out]
  rintro e w2 ⟨a2, c2, rfl, ho2, hb2⟩
  have B2 : Below w.heap.size w w2 := hb1.trans (hb2.mono hb1.size)
  obtain ⟨a2', c2', e2', hr2, hf2, _⟩ := NB.rd_of_own ho2; cases e2'
  clear hb2 ho2 hb1 hf2
  go_wp2_with fail
  refine (right_any _ _ _ _ _ hr2 (by omega)).mono ?_
  rw [rcw]
  rintro e w3 ⟨rfl, hb3⟩
  have B3 := B2.trans (hb3.mono B2.size)
  clear hb3 B2 hr2
  go_wp2
  go_ret
  exact ⟨rfl, B3⟩

theorem law2 (w : World) (a : Option Addr) (n c : Nat) (bs : List UInt8) (at_ bu : Int) (h : NB.RdB w a n c bs) (ha : (Lit.int .u16 at_).wf = true) (hu : (Lit.int .u32 bu).wf = true) :
    Calls Try.prog 4 #[.slice a n c, .int .u16 at_, .int .u32 bu] w fun e w' => e = .returned (.bool true) ∧ Below w.heap.size w w' := by
  obtain rfl : n = bs.length := (NB.RdB.size h).symm
  have hbd := Rd.bound h
  have ba := bounds_u16 ha
  have bb := bounds_u32 hu
  obtain ⟨m, rfl⟩ := Int.eq_ofNat_of_zero_le ba.1
  obtain ⟨u, rfl⟩ := Int.eq_ofNat_of_zero_le bb.1
  by_cases h300 : bs.length ≤ 300
  · by_cases hu0 : u = 0
    · subst hu0
      exact law2_zero w a c bs _ m h h300 rfl (by simp [sealedL, four]) (right_sealed' bs)
    · refine law2_core w a c bs _ m u h (by omega) (by omega) h300 rfl (by simp [sealedL, four]) (right_sealed' bs) hu0 _ rfl (wrong_burst bs _ u ?_ (by omega) hu0)
      have := Nat.mod_lt m (show 0 < 8 * bs.length + 1 by omega)
      omega
  · go_enter Try.func4, Try.ntmps4
    go_wp2_with (first
      | (go_at_call 8; refine (awake_any _).mono ?_; rintro e w1 ⟨rfl, hb1⟩))
    go_ret
    exact ⟨rfl, hb1⟩

theorem sumsBurst.own : ownKnob Try.prog.godebug = none := by kernel_rfl
theorem sumsBurst.laidOut : laidOutB Try.prog = true := by kernel_rfl
set_option maxRecDepth 100000 in
theorem sumsBurst.lifted (os : Os) (started : os.Started) (H : Type) (enc : TypeId × Value → H) :
    ReturnsInHanded {} Try.checked os 4 .any (Rows.sumsBurstSpec.pre6 enc Try.prog Try.f4 Rows.sumsBurstRow.domain false) (Rows.sumsBurstSpec.post enc Try.prog Try.f4 false true false false) := by
  have own := sumsBurst.own
  have laidOut := sumsBurst.laidOut
  refine returnsInHanded_of_change (C := Try.checked) own started (by kernel_rfl) Try.func4
    (ChangeSpec.witness6 (enc := enc) (C := Try.checked) false ⟨#[], #[.slice none 0 0, .int .u16 0, .int .u32 0], []⟩ 8 (by kernel_rfl) (by kernel_rfl) (by kernel_rfl) (by kernel_rfl)) ?_
  intro W base args ds gs before hval0 hW hcnd _
  have hval : ∀ (j : Nat) t v, Try.f4.params[j]? = some t → args[j]? = some v → Value.okWide Try.prog W .any base t v := hval0
  have hW' := hW
  obtain ⟨p, q, hA0, hV, rfl, hfz, hnd⟩ := hW
  have hA : DataW.TrodAll enc Try.prog W 0 (fun _ => true) true Try.f4.params.toList args.toList ds p := hA0
  rw [Try.params4] at hA hval
  obtain ⟨v0, vs0, d0, ds0, p0, q0, hargs, rfl, rfl, h0, r0⟩ := trodAll_cons hA
  obtain ⟨v1, vs1, d1, ds1, p1, q1, rfl, rfl, rfl, h1, r1⟩ := trodAll_cons r0
  obtain ⟨v2, vs2, d2, ds2, p2, q2, rfl, rfl, rfl, h2, r2⟩ := trodAll_cons r1
  obtain ⟨rfl, rfl, rfl⟩ := trodAll_nil r2
  obtain rfl : args = #[v0, v1, v2] := by cases args; simp_all
  obtain ⟨rfl, rfl⟩ := trodVars_none hV
  obtain ⟨a0, n0, c0, rfl⟩ := okWide_slice Try.underlying23 (hval 0 23 v0 rfl rfl)
  have k0 := h0
  have lt0 : ∀ x ∈ p0, x.block < W.heap.size := by obtain ⟨m, hm⟩ := k0; exact DataW.trod_lt m _ _ _ hm
  obtain ⟨z0, w0⟩ := NB.open_B Try.underlying23 Try.underlying5 (by kernel_rfl) h0
  obtain ⟨i1, rfl, rfl, rfl, w1⟩ := open_int Try.underlying33 (hval 1 33 v1 rfl rfl) h1
  obtain ⟨i2, rfl, rfl, rfl, w2⟩ := open_int Try.underlying25 (hval 2 25 v2 rfl rfl) h2
  clear hA0 hval0
  refine (law2 W a0 n0 c0 z0 i1 i2 w0 w1 w2).mono fun e W' ⟨he, bel⟩ => ?_
  subst he
  exact ⟨_, rfl, _, _, _, [], _, [], hW', trodAll_mk1 (shut_bool Try.underlying4 _), (trodAll_cons_mk (Below.trod laidOut (by kernel_rfl) (of_decide_eq_true (by kernel_rfl)) k0 bel lt0) (trodAll_cons_mk (shut_int Try.underlying33 w1) (trodAll_cons_mk (shut_int Try.underlying25 w2) trodAll_mk0))), rfl, bel.frame _, fun h => by cases h⟩

theorem sumsBurst_holds : Rows.SumsBurstSaid :=
  OpenClaim.holds_of_wide 4 Try.f4 rfl rfl rfl rfl rfl rfl rfl ⟨rfl, rfl, rfl, rfl, rfl⟩ rfl rfl rfl rfl rfl (by kernel_rfl) Try.func4 (by kernel_rfl)
    (of_decide_eq_true (by kernel_rfl)) (by unfold Func.isWrapper; first | (rw [if_pos (by decide +kernel)]; kernel_rfl) | (rw [if_neg (by decide +kernel)]; exact ⟨rfl, rfl⟩))
    (fun os started H enc _ => sumsBurst.lifted os started H enc)
#print axioms sumsBurst_holds
end Go.Proofs.Ytfokmbpcpfkopaa
