/- The segment's blocks, walked: is one whole; what it bears. -/
import Derived.Test.YtjfidhjnbcmhfaaSga
import Derived.Test.YtjfidhjnbcmhfaaAld
import Derived.Test.YtjfidhjnbcmhfaaRw
import Derived.Test.YtjfidhjnbcmhfaaTals
namespace Go.Proofs.Ytjfidhjnbcmhfaa
open Go.RowKit
open Go.NB (Rd Dk Kp Stp Off Dis val oneB dB Rw)

theorem rightB_is (l : List UInt8) : rightB l = ((l.take 4 == l.drop 60) && rightL (l.take 60)) := by
  unfold rightB
  congr 1
  rw [Bool.eq_iff_iff]
  simp

set_option maxRecDepth 100000 in
set_option maxHeartbeats 2000000 in
theorem swhole_any (w : World) (a : Option Addr) (c : Nat) (l : List UInt8) (h : NB.RdB w a 64 c l) :
    Calls Try.prog 67 #[.slice a 64 c] w fun e w' => e = .returned (.bool (rightB l)) ∧ Below w.heap.size w w' := by
  have hle := h.le
  have hsz := NB.RdB.size h
  have hbd := Rd.bound h
  obtain ⟨b3, o3, ha, hc3⟩ := NB.Rd.pos h (by omega)
  subst ha
  have h60 : ¬ c = 60 := by omega
  have hcc : 60 ≤ c := by omega
  have hc1 : ∀ j v, ((l.take 4).map NB.u8v)[j]? = some v → w.cell? ⟨b3, o3 + j, none⟩ = some v := fun j v hv => hc3 j v (by
    rw [List.getElem?_map, List.getElem?_take] at hv
    rw [List.getElem?_map]
    split at hv
    · exact hv
    · cases hv)
  have hc2 : ∀ j v, ((l.drop 60).map NB.u8v)[j]? = some v → w.cell? ⟨b3, o3 + 60 + j, none⟩ = some v := fun j v hv => by
    rw [Nat.add_assoc]
    exact hc3 _ v (by rw [List.getElem?_map, List.getElem?_drop] at hv; rw [List.getElem?_map]; exact hv)
  have hl1 : (l.take 4).length = 4 := by rw [List.length_take]; omega
  have hl2 : (l.drop 60).length = 4 := by rw [List.length_drop]; omega
  have HW := Go.Lib.hid (rightB_is l)
  generalize rightB l = W at *
  have hA := fun (a : Option Addr) (l c : Nat) (h : 4 ≤ l) w => NB.run_arrayAt (P := Try.prog) (t := 126) (e := 5) (n := 4) (by kernel_rfl) a l c h w
  go_enter Try.func67, Try.ntmps67
  go_wp2_with fail
  refine NB.wp_region_m (by kernel_rfl) ?_
  have hB := (Below.refl w.heap.size w).drew
  have hv := h.below (Below.refl _ w).drew
  have e1 := hA (some ⟨b3, o3, none⟩) 64 c (by omega)
  have e2 := hA (some ⟨b3, o3 + 60, none⟩) 4 (c - 60) (by omega)
  have hEG : Try.prog.eqGuardType Try.prog.depth 126 = false := by kernel_rfl
  have hsz8 : ∀ w, (sizeOf 5).run Try.prog w = .ok 1 w := fun w => by kernel_rfl
  have hE := fun w => run_eql_bytes (P := Try.prog) w 126 5 4 (by kernel_rfl) (by kernel_rfl) hsz8 (l.take 4) (l.drop 60) hl1 hl2
  have hE' : ∀ w, (Go.binOp .eql 126 (.agg ((l.take 4).map NB.u8v).toArray) (.agg ((l.drop 60).map NB.u8v).toArray)).run Try.prog w = .ok (.bool (l.take 4 == l.drop 60)) w := hE
  have hxl : ((l.take 4).map NB.u8v).length = 4 := by simpa using hl1
  have hyl : ((l.drop 60).map NB.u8v).length = 4 := by rw [List.length_map]; exact hl2
  have hci : (60 : Int) ≤ (c : Int) := by omega
  have hbv := Below.refl w.drew.heap.size w.drew
  clear hE hc3
  generalize (l.take 4).map NB.u8v = xs at *
  generalize (l.drop 60).map NB.u8v = ys at *
  generalize hAe : (l.take 4 == l.drop 60) = A at *
  have HAE := Go.Lib.hid hAe; clear hAe
  have hc1v : ∀ j v, xs[j]? = some v → w.drew.cell? ⟨b3, o3 + j, none⟩ = some v := hc1
  have hc2v : ∀ j v, ys[j]? = some v → w.drew.cell? ⟨b3, o3 + 60 + j, none⟩ = some v := hc2
  clear hc1 hc2 h
  generalize w.drew = v at *
  cases A with
  | false =>
    refine NB.any_p 0 rfl (by kernel_rfl) (fun K hK => ?_); go_simp; refine hK _ ?_; clear hK K
    refine NB.any_p 1 rfl (by kernel_rfl) (fun K hK => ?_); go_simp; refine hK _ ?_; clear hK K
    refine NB.any_r 2 rfl (by kernel_rfl) rfl _ (fun w' hw' => NB.run_op_load_cells rfl rfl Try.underlying126 rfl xs hc1v (by rw [hxl]; kernel_rfl) hw') (fun K hK => ?_); go_simp; refine hK _ ?_; clear hK K
    refine NB.any_p 3 rfl (by kernel_rfl) (fun K hK => ?_); go_simp; refine hK _ ?_; clear hK K
    refine NB.any_p 4 rfl (by kernel_rfl) (fun K hK => ?_); go_simp; refine hK _ ?_; clear hK K
    refine NB.any_p 5 rfl (by kernel_rfl) (fun K hK => ?_); go_simp; refine hK _ ?_; clear hK K
    refine NB.any_r 6 rfl (by kernel_rfl) rfl _ (fun w' hw' => NB.run_op_load_cells rfl rfl Try.underlying126 rfl ys hc2v (by rw [hyl]; kernel_rfl) hw') (fun K hK => ?_); go_simp; refine hK _ ?_; clear hK K
    refine NB.any_p 7 rfl (by kernel_rfl) (fun K hK => ?_); go_simp; refine hK _ ?_; clear hK K
    refine NB.any_p 8 rfl (by kernel_rfl) (fun K hK => ?_); go_simp; refine hK _ ?_; clear hK K
    refine NB.any_p 9 rfl (by kernel_rfl) (fun K hK => ?_); go_simp; refine hK _ ?_; clear hK K
    refine NB.any_p 10 rfl (by kernel_rfl) (fun K hK => ?_); go_simp; refine hK _ ?_; clear hK K
    refine NB.any_e 11 rfl (by kernel_rfl) (fun K hK => ?_); go_simp; refine hK _ _ ?_; clear hK K
    refine NB.any_p 12 rfl (by kernel_rfl) (fun K hK => ?_); go_simp; refine hK _ ?_; clear hK K
    refine NB.any_p 13 rfl (by kernel_rfl) (fun K hK => ?_); go_simp; refine hK _ ?_; clear hK K
    refine NB.any_end (by kernel_rfl) ?_
    go_wp2_with fail
    go_ret
    exact ⟨by rw [HW.out]; rfl, hB⟩
  | true =>
    refine NB.any_p 0 rfl (by kernel_rfl) (fun K hK => ?_); go_simp; refine hK _ ?_; clear hK K
    refine NB.any_p 1 rfl (by kernel_rfl) (fun K hK => ?_); go_simp; refine hK _ ?_; clear hK K
    refine NB.any_r 2 rfl (by kernel_rfl) rfl _ (fun w' hw' => NB.run_op_load_cells rfl rfl Try.underlying126 rfl xs hc1v (by rw [hxl]; kernel_rfl) hw') (fun K hK => ?_); go_simp; refine hK _ ?_; clear hK K
    refine NB.any_p 3 rfl (by kernel_rfl) (fun K hK => ?_); go_simp; refine hK _ ?_; clear hK K
    refine NB.any_p 4 rfl (by kernel_rfl) (fun K hK => ?_); go_simp; refine hK _ ?_; clear hK K
    refine NB.any_p 5 rfl (by kernel_rfl) (fun K hK => ?_); go_simp; refine hK _ ?_; clear hK K
    refine NB.any_r 6 rfl (by kernel_rfl) rfl _ (fun w' hw' => NB.run_op_load_cells rfl rfl Try.underlying126 rfl ys hc2v (by rw [hyl]; kernel_rfl) hw') (fun K hK => ?_); go_simp; refine hK _ ?_; clear hK K
    refine NB.any_p 7 rfl (by kernel_rfl) (fun K hK => ?_); go_simp; refine hK _ ?_; clear hK K
    refine NB.any_p 8 rfl (by kernel_rfl) (fun K hK => ?_); go_simp; refine hK _ ?_; clear hK K
    refine NB.any_p 9 rfl (by kernel_rfl) (fun K hK => ?_); go_simp; refine hK _ ?_; clear hK K
    refine NB.any_p 10 rfl (by kernel_rfl) (fun K hK => ?_); go_simp; refine hK _ ?_; clear hK K
    refine NB.any_e 11 rfl (by kernel_rfl) (fun K hK => ?_); unfold NB.moves; go_simp; refine (right_any _ _ _ _ _ (NB.rdB_cut (Rd.below hv hbv) 60 (by omega)) (by omega)).mono ?_; rintro e w2 ⟨rfl, hb2⟩; refine ⟨_, rfl, hb2, hK _ _ ?_⟩; clear hK K
    refine NB.any_p 12 rfl (by kernel_rfl) (fun K hK => ?_); go_simp; refine hK _ ?_; clear hK K
    refine NB.any_p 13 rfl (by kernel_rfl) (fun K hK => ?_); go_simp; refine hK _ ?_; clear hK K
    refine NB.any_end (by kernel_rfl) ?_
    go_wp2_with fail
    go_ret
    exact ⟨by rw [HW.out]; simp, hB.trans (hb2.mono hB.size)⟩

theorem byte_wraps (y : UInt8) : wrap64 (y.toNat : Int) = (y.toNat : Int) ∧ IntKind.i64.wrap (y.toNat : Int) = (y.toNat : Int) := by
  have := y.toNat_lt
  exact ⟨IntWalk.wrap64_in _ ⟨by omega, by omega⟩, IntWalk.i64_in _ ⟨by omega, by omega⟩⟩
theorem byte_wrap11 (y : UInt8) : IntKind.i64.wrap (11 + (y.toNat : Int)) = 11 + (y.toNat : Int) := by
  have := y.toNat_lt
  exact IntWalk.i64_in _ ⟨by omega, by omega⟩
/-- A block's value. -/
def blkV (x : Bk) (a : Option Addr) (n c : Nat) : List Value := [.int .u64 (x.ep : Int), .int .u64 (x.pl : Int), .int .i64 (x.pt : Int), .int .i64 (x.pn : Int), .slice a n c]
def ReadS (w : World) (l : List UInt8) (e : Ending) (w' : World) : Prop :=
  ∃ (x : Bk) (a : Option Addr) (n c : Nat), e = .returned (.tuple #[.agg (blkV x a n c).toArray, .bool (readB l).isSome]) ∧ NB.RdB w' a n c x.bs ∧ (∀ y, readB l = some y → x = y) ∧ Below w.heap.size w w'

set_option maxRecDepth 100000 in
set_option maxHeartbeats 2000000 in
theorem sread_any (w : World) (a : Option Addr) (c : Nat) (l : List UInt8) (h : NB.RdB w a 64 c l) :
    Calls Try.prog 52 #[.slice a 64 c] w (ReadS w l) := by
  have hle := h.le
  have hsz := NB.RdB.size h
  have hbd := Rd.bound h
  cases hR : rightB l with
  | false =>
    have hn : readB l = none := by unfold readB; rw [hR]; rfl
    unfold ReadS
    rw [hn]
    go_enter Try.func52, Try.ntmps52
    go_wp2_with fail
    refine (swhole_any _ a c l (h.below (oneB _ _))).mono ?_
    rw [hR]
    rintro e w1 ⟨rfl, hb1⟩
    have B1 := NB.bel (oneB _ _) hb1 (oneB w (.cells #[.int .u64 0, .int .u64 0, .int .i64 0, .int .i64 0, .slice none 0 0] 93)).size
    have hA1 := (NB.rw_new w [.int .u64 0, .int .u64 0, .int .i64 0, .int .i64 0, .slice none 0 0] 93 rfl).below hb1
    obtain ⟨d0, d1, d2, d3, d4, g0, g1, g2, g3, g4⟩ := NB.rw5 hA1
    have hltA := hA1.lt
    clear hb1 hA1
    go_wp2_with fail
    refine bodyPost_ret (v := .tuple #[.agg #[.int .u64 0, .int .u64 0, .int .i64 0, .int .i64 0, .slice none 0 0], .bool false]) (by simp [results, Try.results52, go_sem, d0, d1, d2, d3, d4, hltA]) rfl ?_
    exact ⟨⟨0, 0, 0, 0, []⟩, none, 0, 0, rfl, Rd.nil_mk, (fun y hy => nomatch hy), (((((B1.setCell (p := ⟨w.heap.size, 0, none⟩) (Nat.le_refl _) _).setCell (p := ⟨w.heap.size, 1, none⟩) (Nat.le_refl _) _).setCell (p := ⟨w.heap.size, 2, none⟩) (Nat.le_refl _) _).setCell (p := ⟨w.heap.size, 3, none⟩) (Nat.le_refl _) _).setCell (p := ⟨w.heap.size, 4, none⟩) (Nat.le_refl _) _)⟩
  | true =>
    go_enter Try.func52, Try.ntmps52
    go_wp2_with fail
    refine (swhole_any _ a c l (h.below (oneB _ _))).mono ?_
    rw [hR]
    rintro e w1 ⟨rfl, hb1⟩
    have B1 := NB.bel (oneB _ _) hb1 (oneB w (.cells #[.int .u64 0, .int .u64 0, .int .i64 0, .int .i64 0, .slice none 0 0] 93)).size
    have hA1 := (NB.rw_new w [.int .u64 0, .int .u64 0, .int .i64 0, .int .i64 0, .slice none 0 0] 93 rfl).below hb1
    have hltA := hA1.lt
    have hr1 := h.below B1
    have hrow := Go.Lib.hid hA1
    obtain ⟨b3, o3, ha, hc3⟩ := NB.RdB.at hr1 (by omega)
    obtain ⟨y10, hy10⟩ : ∃ y, l.getD 10 0 = y := ⟨_, rfl⟩
    obtain ⟨y8, hy8⟩ : ∃ y, l.getD 8 0 = y := ⟨_, rfl⟩
    obtain ⟨y9, hy9⟩ : ∃ y, l.getD 9 0 = y := ⟨_, rfl⟩
    have q8 : w1.cell? ⟨b3, o3 + 8, none⟩ = some (.int .u8 (y8.toNat : Int)) := by rw [← hy8]; exact hc3 8 (by omega)
    have q9 : w1.cell? ⟨b3, o3 + 9, none⟩ = some (.int .u8 (y9.toNat : Int)) := by rw [← hy9]; exact hc3 9 (by omega)
    have q10 : w1.cell? ⟨b3, o3 + 10, none⟩ = some (.int .u8 (y10.toNat : Int)) := by rw [← hy10]; exact hc3 10 (by omega)
    have hb3lt : b3 < w.heap.size := Rd.lt h b3 o3 ha (by intro e; rw [List.map_eq_nil_iff] at e; rw [e] at hsz; exact absurd hsz (by simp))
    subst ha
    have HY8 := Go.Lib.hid hy8; have HY9 := Go.Lib.hid hy9; have HY10 := Go.Lib.hid hy10
    clear hb1 hA1 hc3 hy8 hy9 hy10
    have hw8 := (byte_wraps y8).1
    have hw9 := (byte_wraps y9).1
    have hw10 := (byte_wraps y10).1
    have hv8 := (byte_wraps y8).2
    have hv9 := (byte_wraps y9).2
    have hv10 := (byte_wraps y10).2
    have hc4 : ¬ c = 4 := by omega
    have hc4i : (4 : Int) ≤ (c : Int) := by omega
    have hc60 : (64 : Int) ≤ (c : Int) := by omega
    by_cases h45 : y10.toNat ≤ 45
    · have h45i : (y10.toNat : Int) ≤ 45 := by omega
      have hwA : IntKind.i64.wrap (11 + (y10.toNat : Int)) = 11 + (y10.toNat : Int) := byte_wrap11 y10
      have hc5 : 11 + (y10.toNat : Int) ≤ (c : Int) := by omega
      have hA0 : (0 : Int) ≤ 11 + (y10.toNat : Int) := by omega
      have hAm : max (11 + (y10.toNat : Int)) 0 = 11 + (y10.toNat : Int) := by omega
      have hAT : (11 + (y10.toNat : Int)).toNat = 11 + y10.toNat := by omega
      have hA11 : (11 : Int) ≤ 11 + (y10.toNat : Int) := by omega
      have hb : NB.RdB w1 (if y10.toNat = 0 then some ⟨b3, o3, none⟩ else some ⟨b3, o3 + 11, none⟩) y10.toNat y10.toNat ((l.drop 11).take y10.toNat) := by
        have h1 := NB.rdB_tail (rdB_front hr1 (11 + y10.toNat) (by omega)) 11 (by omega)
        rw [show 11 + y10.toNat - 11 = y10.toNat by omega, List.drop_take, show 11 + y10.toNat - 11 = y10.toNat by omega] at h1
        by_cases h0 : y10.toNat = 0
        · rw [if_pos h0]; rw [if_pos (by omega)] at h1; exact h1
        · rw [if_neg h0]; rw [if_neg (by omega)] at h1; exact h1
      go_wp2_with fail
      have hb3 : b3 < w.heap.size := hb3lt
      refine NB.wp_region_s [25] (fun w => w.cell? ⟨b3, o3 + 10, none⟩ = some (.int .u8 (y10.toNat : Int))) (by kernel_rfl) ?_
      have hr2 := Rd.below hr1 (dB _)
      replace hb := Rd.below hb (dB _)
      have B2 : Below w.heap.size w w1.drew := B1.drew
      have hrow2 := Go.Lib.hid (hrow.out.below (dB _))
      have hltB : w.heap.size < w1.drew.heap.size := hltA
      have q8v : w1.drew.cell? ⟨b3, o3 + 8, none⟩ = some (.int .u8 (y8.toNat : Int)) := q8
      have q9v : w1.drew.cell? ⟨b3, o3 + 9, none⟩ = some (.int .u8 (y9.toNat : Int)) := q9
      have q10v : w1.drew.cell? ⟨b3, o3 + 10, none⟩ = some (.int .u8 (y10.toNat : Int)) := q10
      clear hr1 B1 hrow hltA q8 q9 q10
      generalize w1.drew = v at *
      have hR4d : NB.RdB v (some ⟨b3, o3 + 4, none⟩) 60 (c - 4) (l.drop 4) := by have h4 := NB.rdB_tail hr2 4 (by omega); rw [if_neg (by omega)] at h4; exact h4
      refine NB.s_p 0 rfl (by kernel_rfl) (fun K hK => ?_); go_simp; refine hK _ ?_; clear hK K
      refine NB.s_p 2 rfl (by kernel_rfl) (fun K hK => ?_); go_simp; refine hK _ ?_; clear hK K
      refine NB.s_p 3 rfl (by kernel_rfl) (fun K hK => ?_); go_simp; refine hK _ ?_; clear hK K
      refine NB.s_p 5 rfl (by kernel_rfl) (fun K hK => ?_); go_simp; refine hK _ ?_; clear hK K
      refine NB.s_p 6 rfl (by kernel_rfl) (fun K hK => ?_); go_simp; refine hK _ ?_; clear hK K
      refine NB.s_r 7 [8, 19, 25, 26] rfl (by kernel_rfl) (by kernel_rfl) rfl _ (fun w' hw' => NB.run_op_load rfl rfl Try.underlying5 rfl (q8v) hw') (fun K hK => ?_); go_simp; refine hK _ ?_; clear hK K
      refine NB.s_p 8 rfl (by kernel_rfl) (fun K hK => ?_); go_simp; refine hK _ ?_; clear hK K
      refine NB.s_p 9 rfl (by kernel_rfl) (fun K hK => ?_); go_simp; refine hK _ ?_; clear hK K
      refine NB.s_p 10 rfl (by kernel_rfl) (fun K hK => ?_); go_simp; refine hK _ ?_; clear hK K
      refine NB.s_r 11 [12, 19, 25, 26] rfl (by kernel_rfl) (by kernel_rfl) rfl _ (fun w' hw' => NB.run_op_load rfl rfl Try.underlying5 rfl (q9v) hw') (fun K hK => ?_); go_simp; refine hK _ ?_; clear hK K
      refine NB.s_p 12 rfl (by kernel_rfl) (fun K hK => ?_); go_simp; refine hK _ ?_; clear hK K
      refine NB.s_p 13 rfl (by kernel_rfl) (fun K hK => ?_); go_simp; refine hK _ ?_; clear hK K
      refine NB.s_p 14 rfl (by kernel_rfl) (fun K hK => ?_); go_simp; refine hK _ ?_; clear hK K
      refine NB.s_p 15 rfl (by kernel_rfl) (fun K hK => ?_); go_simp; refine hK _ ?_; clear hK K
      refine NB.s_p 16 rfl (by kernel_rfl) (fun K hK => ?_); go_simp; refine hK _ ?_; clear hK K
      refine NB.s_p 17 rfl (by kernel_rfl) (fun K hK => ?_); go_simp; refine hK _ ?_; clear hK K
      refine NB.s_p 18 rfl (by kernel_rfl) (fun K hK => ?_); go_simp; refine hK _ ?_; clear hK K
      refine NB.s_p 20 rfl (by kernel_rfl) (fun K hK => ?_); go_simp; refine hK _ ?_; clear hK K
      refine NB.s_p 21 rfl (by kernel_rfl) (fun K hK => ?_); go_simp; refine hK _ ?_; clear hK K
      refine NB.s_a 22 rfl (by kernel_rfl) rfl _ (q10v) (fun x y hx hy => (Below.cell hy (World.block_lt_of_cell? _ _ hx)).trans hx) (fun w' hw' => NB.run_op_load rfl rfl Try.underlying5 rfl hw' (Below.refl _ w')) (fun K hK => ?_); go_simp; refine hK _ ?_; clear hK K
      refine NB.s_p 23 rfl (by kernel_rfl) (fun K hK => ?_); go_simp; refine hK _ ?_; clear hK K
      refine NB.s_p 24 rfl (by kernel_rfl) (fun K hK => ?_); go_simp; refine hK _ ?_; clear hK K
      refine NB.s_e 1 rfl (by kernel_rfl) (by kernel_rfl) (fun K hK => ?_); unfold NB.tmoves; go_simp; refine (four_any _ _ _ _ l hr2 (by omega)).mono ?_; rintro e w' ⟨rfl, e2⟩; subst w'; refine ⟨_, rfl, Below.refl _ _, hK _ _ ?_⟩; clear hK K
      refine NB.s_e 4 rfl (by kernel_rfl) (by kernel_rfl) (fun K hK => ?_); unfold NB.tmoves; go_simp; refine (four_any _ _ _ _ (l.drop 4) hR4d (by omega)).mono ?_; rintro e w' ⟨rfl, e2⟩; subst w'; refine ⟨_, rfl, Below.refl _ _, hK _ _ ?_⟩; clear hK K
      refine NB.s_p 19 rfl (by kernel_rfl) (fun K hK => ?_); go_simp; refine hK _ ?_; clear hK K
      refine NB.s_w 25 rfl (by kernel_rfl) (by kernel_rfl) rfl (fun Q' hK => ?_)
      refine NB.wpList_store_agg_any rfl 93 (.tmp 2) (.tmp 33) rfl rfl w.heap.size 0 _ rfl rfl 93 _ hrow2.out (by kernel_rfl) (by simp) (by simp [Value.oneCell']) _ (NB.splice_all _ _ (by simp)) ?_; intro w6 hg6 hr6 hs6; have q10w : w6.cell? ⟨b3, o3 + 10, none⟩ = some (.int .u8 (y10.toNat : Int)) := (by rw [← q10v]; unfold World.cell?; simp only; rw [hg6.block b3 (by omega) (by intro e; injection e with e; omega)]); refine hK _ _ ⟨q10w, ?_⟩; clear hK Q'
      refine NB.s_p 26 rfl (by kernel_rfl) (fun K hK => ?_); go_simp; refine hK _ ?_; clear hK K
      refine NB.s_end (by kernel_rfl) ?_
      generalize hA2 : (if y10.toNat = 0 then (some ⟨b3, o3, none⟩ : Option Addr) else some ⟨b3, o3 + 11, none⟩) = A2 at *
      have hR6 : Rw w6 w.heap.size _ 93 := hr6
      obtain ⟨d0, d1, d2, d3, d4, _⟩ := NB.rw5 hR6
      have hlt6 := hR6.lt
      have B6 : Below w.heap.size w w6 := B2.grown hg6 (Nat.le_of_lt hltB) (by rintro k hk; cases hk; exact Nat.le_refl _)
      have hb6 : NB.RdB w6 A2 y10.toNat y10.toNat ((l.drop 11).take (y10.toNat)) := (Rd.keep hb (fun b o e _ => by
        have : b = b3 := by rw [← hA2] at e; split at e <;> (injection e with e; injection e with e; exact e.symm)
        subst this
        exact hg6.block b (by omega) (by intro e; injection e with e; omega)))
      go_wp2_with fail
      refine bodyPost_ret (v := .tuple #[.agg #[.int .u64 (num4 l : Int), .int .u64 (num4 (l.drop 4) : Int), .int .i64 (y8.toNat : Int), .int .i64 (y9.toNat : Int), .slice A2 y10.toNat y10.toNat], .bool true]) (by simp [results, Try.results52, go_sem, d0, d1, d2, d3, d4, hlt6, h45i]) rfl ?_
      refine ⟨⟨num4 l, num4 (l.drop 4), y8.toNat, y9.toNat, (l.drop 11).take (y10.toNat)⟩, _, _, _, ?_, hb6, ?_, B6⟩
      · have hc : (readB l).isSome = true := by unfold readB; rw [hR, HY10.out]; simp [h45]
        rw [hc]; rfl
      · intro y hy
        unfold readB at hy
        rw [hR, HY10.out] at hy
        rw [if_pos ⟨rfl, h45⟩] at hy
        injection hy with hy
        rw [← hy]
        simp only [bkOf, HY8.out, HY9.out, HY10.out, Nat.min_eq_left h45]
    · have h45i : ¬ (y10.toNat : Int) ≤ 45 := by omega
      have hb : NB.RdB w1 (some ⟨b3, o3 + 11, none⟩) 45 45 ((l.drop 11).take 45) := by
        have h1 := NB.rdB_tail (rdB_front hr1 56 (by omega)) 11 (by omega)
        rw [if_neg (by omega), List.drop_take] at h1
        exact h1
      have hc56 : (56 : Int) ≤ (c : Int) := by omega
      have hw56 : IntKind.i64.wrap 56 = 56 := IntWalk.i64_in _ ⟨by omega, by omega⟩
      go_wp2_with fail
      have hb3 : b3 < w.heap.size := hb3lt
      refine NB.wp_region_s [25] (fun w => w.cell? ⟨b3, o3 + 10, none⟩ = some (.int .u8 (y10.toNat : Int))) (by kernel_rfl) ?_
      have hr2 := Rd.below hr1 (dB _)
      replace hb := Rd.below hb (dB _)
      have B2 : Below w.heap.size w w1.drew := B1.drew
      have hrow2 := Go.Lib.hid (hrow.out.below (dB _))
      have hltB : w.heap.size < w1.drew.heap.size := hltA
      have q8v : w1.drew.cell? ⟨b3, o3 + 8, none⟩ = some (.int .u8 (y8.toNat : Int)) := q8
      have q9v : w1.drew.cell? ⟨b3, o3 + 9, none⟩ = some (.int .u8 (y9.toNat : Int)) := q9
      have q10v : w1.drew.cell? ⟨b3, o3 + 10, none⟩ = some (.int .u8 (y10.toNat : Int)) := q10
      clear hr1 B1 hrow hltA q8 q9 q10
      generalize w1.drew = v at *
      have hR4d : NB.RdB v (some ⟨b3, o3 + 4, none⟩) 60 (c - 4) (l.drop 4) := by have h4 := NB.rdB_tail hr2 4 (by omega); rw [if_neg (by omega)] at h4; exact h4
      refine NB.s_p 0 rfl (by kernel_rfl) (fun K hK => ?_); go_simp; refine hK _ ?_; clear hK K
      refine NB.s_p 2 rfl (by kernel_rfl) (fun K hK => ?_); go_simp; refine hK _ ?_; clear hK K
      refine NB.s_p 3 rfl (by kernel_rfl) (fun K hK => ?_); go_simp; refine hK _ ?_; clear hK K
      refine NB.s_p 5 rfl (by kernel_rfl) (fun K hK => ?_); go_simp; refine hK _ ?_; clear hK K
      refine NB.s_p 6 rfl (by kernel_rfl) (fun K hK => ?_); go_simp; refine hK _ ?_; clear hK K
      refine NB.s_r 7 [8, 19, 25, 26] rfl (by kernel_rfl) (by kernel_rfl) rfl _ (fun w' hw' => NB.run_op_load rfl rfl Try.underlying5 rfl (q8v) hw') (fun K hK => ?_); go_simp; refine hK _ ?_; clear hK K
      refine NB.s_p 8 rfl (by kernel_rfl) (fun K hK => ?_); go_simp; refine hK _ ?_; clear hK K
      refine NB.s_p 9 rfl (by kernel_rfl) (fun K hK => ?_); go_simp; refine hK _ ?_; clear hK K
      refine NB.s_p 10 rfl (by kernel_rfl) (fun K hK => ?_); go_simp; refine hK _ ?_; clear hK K
      refine NB.s_r 11 [12, 19, 25, 26] rfl (by kernel_rfl) (by kernel_rfl) rfl _ (fun w' hw' => NB.run_op_load rfl rfl Try.underlying5 rfl (q9v) hw') (fun K hK => ?_); go_simp; refine hK _ ?_; clear hK K
      refine NB.s_p 12 rfl (by kernel_rfl) (fun K hK => ?_); go_simp; refine hK _ ?_; clear hK K
      refine NB.s_p 13 rfl (by kernel_rfl) (fun K hK => ?_); go_simp; refine hK _ ?_; clear hK K
      refine NB.s_p 14 rfl (by kernel_rfl) (fun K hK => ?_); go_simp; refine hK _ ?_; clear hK K
      refine NB.s_p 15 rfl (by kernel_rfl) (fun K hK => ?_); go_simp; refine hK _ ?_; clear hK K
      refine NB.s_p 16 rfl (by kernel_rfl) (fun K hK => ?_); go_simp; refine hK _ ?_; clear hK K
      refine NB.s_p 17 rfl (by kernel_rfl) (fun K hK => ?_); go_simp; refine hK _ ?_; clear hK K
      refine NB.s_p 18 rfl (by kernel_rfl) (fun K hK => ?_); go_simp; refine hK _ ?_; clear hK K
      refine NB.s_p 20 rfl (by kernel_rfl) (fun K hK => ?_); go_simp; refine hK _ ?_; clear hK K
      refine NB.s_p 21 rfl (by kernel_rfl) (fun K hK => ?_); go_simp; refine hK _ ?_; clear hK K
      refine NB.s_a 22 rfl (by kernel_rfl) rfl _ (q10v) (fun x y hx hy => (Below.cell hy (World.block_lt_of_cell? _ _ hx)).trans hx) (fun w' hw' => NB.run_op_load rfl rfl Try.underlying5 rfl hw' (Below.refl _ w')) (fun K hK => ?_); go_simp; refine hK _ ?_; clear hK K
      refine NB.s_p 23 rfl (by kernel_rfl) (fun K hK => ?_); go_simp; refine hK _ ?_; clear hK K
      refine NB.s_p 24 rfl (by kernel_rfl) (fun K hK => ?_); go_simp; refine hK _ ?_; clear hK K
      refine NB.s_e 1 rfl (by kernel_rfl) (by kernel_rfl) (fun K hK => ?_); unfold NB.tmoves; go_simp; refine (four_any _ _ _ _ l hr2 (by omega)).mono ?_; rintro e w' ⟨rfl, e2⟩; subst w'; refine ⟨_, rfl, Below.refl _ _, hK _ _ ?_⟩; clear hK K
      refine NB.s_e 4 rfl (by kernel_rfl) (by kernel_rfl) (fun K hK => ?_); unfold NB.tmoves; go_simp; refine (four_any _ _ _ _ (l.drop 4) hR4d (by omega)).mono ?_; rintro e w' ⟨rfl, e2⟩; subst w'; refine ⟨_, rfl, Below.refl _ _, hK _ _ ?_⟩; clear hK K
      refine NB.s_p 19 rfl (by kernel_rfl) (fun K hK => ?_); go_simp; refine hK _ ?_; clear hK K
      refine NB.s_w 25 rfl (by kernel_rfl) (by kernel_rfl) rfl (fun Q' hK => ?_)
      refine NB.wpList_store_agg_any rfl 93 (.tmp 2) (.tmp 33) rfl rfl w.heap.size 0 _ rfl rfl 93 _ hrow2.out (by kernel_rfl) (by simp) (by simp [Value.oneCell']) _ (NB.splice_all _ _ (by simp)) ?_; intro w6 hg6 hr6 hs6; have q10w : w6.cell? ⟨b3, o3 + 10, none⟩ = some (.int .u8 (y10.toNat : Int)) := (by rw [← q10v]; unfold World.cell?; simp only; rw [hg6.block b3 (by omega) (by intro e; injection e with e; omega)]); refine hK _ _ ⟨q10w, ?_⟩; clear hK Q'
      refine NB.s_p 26 rfl (by kernel_rfl) (fun K hK => ?_); go_simp; refine hK _ ?_; clear hK K
      refine NB.s_end (by kernel_rfl) ?_
      have hR6 : Rw w6 w.heap.size _ 93 := hr6
      obtain ⟨d0, d1, d2, d3, d4, _⟩ := NB.rw5 hR6
      have hlt6 := hR6.lt
      have B6 : Below w.heap.size w w6 := B2.grown hg6 (Nat.le_of_lt hltB) (by rintro k hk; cases hk; exact Nat.le_refl _)
      have hb6 : NB.RdB w6 (some ⟨b3, o3 + 11, none⟩) 45 45 ((l.drop 11).take (45)) := (Rd.keep hb (fun b o e _ => by
        have : b = b3 := by injection e with e; injection e with e; exact e.symm
        subst this
        exact hg6.block b (by omega) (by intro e; injection e with e; omega)))
      go_wp2_with fail
      refine bodyPost_ret (v := .tuple #[.agg #[.int .u64 (num4 l : Int), .int .u64 (num4 (l.drop 4) : Int), .int .i64 (y8.toNat : Int), .int .i64 (y9.toNat : Int), .slice (some ⟨b3, o3 + 11, none⟩) 45 45], .bool false]) (by simp [results, Try.results52, go_sem, d0, d1, d2, d3, d4, hlt6, h45i]) rfl ?_
      refine ⟨⟨num4 l, num4 (l.drop 4), y8.toNat, y9.toNat, (l.drop 11).take (45)⟩, _, _, _, ?_, hb6, ?_, B6⟩
      · have hc : (readB l).isSome = false := by unfold readB; rw [hR, HY10.out]; simp [h45]
        rw [hc]; rfl
      · intro y hy
        unfold readB at hy
        rw [hR, HY10.out] at hy
        rw [if_neg (fun h => h45 h.2)] at hy
        cases hy
end Go.Proofs.Ytjfidhjnbcmhfaa
