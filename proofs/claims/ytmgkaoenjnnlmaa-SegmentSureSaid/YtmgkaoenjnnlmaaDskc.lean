/- The disk's Sync, walked. -/
import Derived.Test.YtmgkaoenjnnlmaaDskb
namespace Go.Proofs.Ytmgkaoenjnnlmaa
open Go.RowKit
open Go.NB (Rd Dk Kp footD)

set_option maxHeartbeats 400000 in
theorem sync_nil (w : World) : Calls Try.prog 42 #[.pointer none] w fun e w' => e = .returned (.int .i64 1) ∧ w' = w := by
  go_enter Try.func42, Try.ntmps42
  go_wp2_with (go_at_call 66; refine (up_nil _).mono ?_; rintro e w' ⟨rfl, rfl⟩)
  go_ret
  exact ⟨rfl, rfl⟩

/-- What a sync leaves. -/
def SyncedD (w : World) (base p bl : Nat) (vW : Value) (r : Dk × Int) (e : Ending) (w' : World) : Prop :=
  e = .returned (.int .i64 r.2) ∧ ∃ vW', IsD w' base p bl vW' r.1 ∧ Kp (footD p bl vW) w w' ∧ ∀ k, vW'.ownBlock = some k → vW.ownBlock = some k

/-- Behind so many of the writes. -/
def midD (D : Dk) (k : Nat) : Dk := { D with l := Dk.lay D.l (D.waits.take k) }

theorem lay_len (ws : List (Nat × List UInt8)) : ∀ l : List (List UInt8), (Dk.lay l ws).length = l.length := by
  induction ws with
  | nil => intro l; rfl
  | cons x ws ih => intro l; exact (ih (l.set x.1 x.2)).trans (by simp)

theorem midD_succ (D : Dk) (k i : Nat) (b : List UInt8) (h : D.waits[k]? = some (i, b)) : midD D (k + 1) = { midD D k with l := (midD D k).l.set i b } := by
  obtain ⟨hk, e⟩ := List.getElem?_eq_some_iff.1 h
  unfold midD Dk.lay
  rw [List.take_succ_eq_append_getElem hk, e, List.foldl_append]
  rfl

theorem info_r {i : Int} {b : List UInt8} (h : b.length = 64) : (Try.prog.info? 97).map (·.size) = some (rW i b).toArray.size := by
  rw [show (rW i b).toArray.size = 65 by simp [rW, h]]; kernel_rfl
theorem info_b {b : List UInt8} (h : b.length = 64) : (Try.prog.info? 95).map (·.size) = some (b.map NB.u8v).toArray.size := by
  rw [show (b.map NB.u8v).toArray.size = 64 by simp [h]]; kernel_rfl

set_option maxHeartbeats 1000000 in
theorem sync_any (w : World) (base p bl : Nat) (vW : Value) (D : Dk) (h : IsD w base p bl vW D) (hwn : D.waits.length ≤ 1000000) :
    Calls Try.prog 42 #[.pointer (some ⟨p, 0, none⟩)] w (SyncedD w base p bl vW D.sync) := by
  cases hd : D.down with
  | true =>
    have hq : D.sync = (D, 20) := by simp [Dk.sync, hd]
    have hu : D.up = 20 := by simp [Dk.up, hd]
    clear hd
    rw [hq]
    go_enter Try.func42, Try.ntmps42
    go_wp2_with (first
      | (go_at_call 66; refine (up_any _ _ _ _ _ _ h).mono ?_; rw [hu]; rintro e w' ⟨rfl, rfl⟩))
    go_ret
    exact ⟨rfl, vW, h, Kp.refl _ _, fun k hk => hk⟩
  | false =>
    have hu : D.up = 0 := by simp [Dk.up, hd]
    by_cases h0 : D.left = 0
    · have hc : D.counts = ({ D with down := true }, 20) := by simp [Dk.counts, h0]
      have hq : D.sync = ({ D with down := true }, 20) := by simp [Dk.sync, hd, h0]
      clear hd
      rw [hq]
      go_enter Try.func42, Try.ntmps42
      go_wp2_with (first
        | (go_at_call 66; refine (up_any _ _ _ _ _ _ h).mono ?_; rw [hu]; rintro e w' ⟨rfl, rfl⟩)
        | (go_at_call 53; refine (counts_any _ _ _ _ _ _ h).mono ?_; rw [hc]; rintro e w1 ⟨rfl, hd1, hk1⟩))
      go_ret
      exact ⟨rfl, vW, hd1, hk1, fun k hk => hk⟩
    · have hc2 : D.counts.2 = 0 := by simp [Dk.counts, h0]
      have hc1 : D.counts.1 = { D with left := max (D.left - 1) (-1) } := by simp [Dk.counts, h0]
      have hq : D.sync = ({ D with left := max (D.left - 1) (-1), l := Dk.lay D.l D.waits, waits := [] }, 0) := by simp [Dk.sync, hd, h0]
      clear hd
      rw [hq]
      generalize hD1 : ({ D with left := max (D.left - 1) (-1) } : Dk) = D1 at hc1
      have hDl : D1.l = D.l := by rw [← hD1]
      have hDw : D1.waits = D.waits := by rw [← hD1]
      have hwn1 : D1.waits.length ≤ 1000000 := by rw [hDw]; exact hwn
      have hfin : ({ D with left := max (D.left - 1) (-1), l := Dk.lay D.l D.waits, waits := [] } : Dk) = { midD D1 D1.waits.length with waits := [] } := by
        rw [← hD1]; simp [midD]
      rw [hfin]
      have HH := Go.Lib.hid hD1; clear hD1 hfin hDl hq
      obtain ⟨a0, c0, hv0, hr0, _⟩ := NB.rd_of_own h.hw
      have hb0 := Rd.bound hr0
      have kz := zero_w
      go_enter Try.func42, Try.ntmps42
      go_wp2_with (first
        | (go_at_call 66; refine (up_any _ _ _ _ _ _ h).mono ?_; rw [hu]; rintro e w' ⟨rfl, rfl⟩)
        | (go_at_call 53; refine (counts_any _ _ _ _ _ _ h).mono ?_; rw [hc2, hc1]; rintro e w1 ⟨rfl, hd1, hk1⟩; have c1 : w1.cell? ⟨p, 1, none⟩ = some (.slice a0 D.waits.length c0) := by rw [← hv0]; exact hd1.cell 1 _ rfl))
      go_loopw [22] (fun i wr => ∃ k : Nat, k ≤ D.waits.length ∧ i = .int .i64 k ∧ IsD wr base p bl vW (midD D1 k) ∧ Kp (footD p bl vW) w' wr) (fun i _ => D.waits.length - (intOf i).toNat)
      case atStart => exact ⟨0, by omega, rfl, by simpa [midD, Dk.lay] using hd1, hk1⟩
      case round =>
        clear hd1 hk1 c1
        obtain ⟨k, hk, rfl, hdk, hkk⟩ := hrel
        by_cases hlt : k < D.waits.length
        · obtain ⟨g, cap, cur, i, b, hv, hcl, hcm, hg, hcs, hex, hwk, h64, hil⟩ := hdk.wait_at k (by simpa [midD, hDw] using hlt)
          rw [hv0] at hv
          injection hv with e1 e2 e3
          subst e1 e3
          clear e2
          have HEX := Go.Lib.hid hex; have HWK := Go.Lib.hid hwk; have HCS := Go.Lib.hid hcs; have HG := Go.Lib.hid hg
          clear hex hwk hcs hg
          have hki : (k : Int) < (D.waits.length : Int) := by omega
          go_wp2_with (first
            | (refine NB.wpList_load_agg rfl 97 (.tmp 24) rfl g (k * 65) 65 ?hx 97 cur (0, 0) _ HG.out Try.underlying97 rfl (by kernel_rfl) HCS.out (rW (i : Int) b).toArray HEX.out ?_; case hx => simp [Act.eval]; try omega)
            | (refine NB.wpList_store_agg_any rfl 97 (.tmp 6) (.tmp 25) rfl rfl wr.heap.size 0 (rW (i : Int) b).toArray rfl rfl 97 (zW 0).toArray (heap_alloc_new wr _) (info_r h64) (by simp [rW, zW, h64]) (rW_one _ b) (rW (i : Int) b).toArray (NB.splice_all _ _ (by simp [rW, zW, h64])) ?_; intro w2 hg2 hr2 hs2))
          have B2 : Below wr.heap.size wr w2 := (((Below.refl wr.heap.size wr).alloc (Nat.le_refl _) _).grown hg2 (by simp) (by rintro k hk; cases hk; exact Nat.le_refl _))
          have B3 : Below wr.heap.size wr w2.drew := ⟨B2.os, B2.tape, B2.output, B2.size, B2.block⟩
          have hr3 : w2.drew.heap[wr.heap.size]? = some (.cells (rW (i : Int) b).toArray 97 (0, 0)) := hr2
          refine NB.wp_region_t [9] (by kernel_rfl) ?_
          generalize w2.drew = w3 at *
          have hd3 := hdk.below B3
          have q0 := hd3.cell 0 _ rfl
          have q1 : w3.cell? ⟨wr.heap.size, 0, none⟩ = some (.int .i64 (i : Int)) := by rw [cell_of_row _ _ _ _ _ _ hr3]; rfl
          have q2 : (rW (i : Int) b).toArray.extract 1 (1 + 64) = (b.map NB.u8v).toArray := by
            apply Array.ext'
            simp only [rW, List.extract_toArray, List.extract_eq_take_drop, List.drop_succ_cons, List.drop_zero]
            exact List.take_of_length_le (by simp [h64])
          have hq2 := Go.Lib.hid q2; clear q2
          have hil' : (i : Int) < ((midD D1 k).l.length : Int) := by omega
          have hn3 := hd3.n
          have hl3 := hd3.hl
          have hl3' := Go.Lib.hid hl3; clear hl3
          have hset := Go.Lib.hid (NB.flatL_set hd3.l64 i hil b h64)
          have hlen : i * 64 + (b.map NB.u8v).toArray.size ≤ (NB.flatL (midD D1 k).l).toArray.size := by
            have := NB.flatL_len hd3.l64
            simp only [List.size_toArray, List.length_map, h64, this]
            omega
          have HL := Go.Lib.hid hlen; clear hlen
          refine NB.t_p 0 rfl (by kernel_rfl) (fun K hK => ?_); go_simp; refine hK _ ?_; clear hK K
          refine NB.t_p 1 rfl (by kernel_rfl) (fun K hK => ?_); go_simp; refine hK _ ?_; clear hK K
          refine NB.t_p 2 rfl (by kernel_rfl) (fun K hK => ?_); go_simp; refine hK _ ?_; clear hK K
          refine NB.t_r 3 [8, 9] rfl (by kernel_rfl) (by kernel_rfl) rfl _ (fun w' hw' => NB.run_op_load rfl rfl Try.underlying75 rfl q0 hw') (fun K hK => ?_); go_simp; refine hK _ ?_; clear hK K
          refine NB.t_p 4 rfl (by kernel_rfl) (fun K hK => ?_); go_simp; refine hK _ ?_; clear hK K
          refine NB.t_r 5 [8, 9] rfl (by kernel_rfl) (by kernel_rfl) rfl _ (fun w' hw' => NB.run_op_load rfl rfl Try.underlying3 rfl q1 hw') (fun K hK => ?_); go_simp; refine hK _ ?_; clear hK K
          refine NB.t_p 6 rfl (by kernel_rfl) (fun K hK => ?_); go_simp; refine hK _ ?_; clear hK K
          refine NB.t_r 7 [8, 9] rfl (by kernel_rfl) (by kernel_rfl) rfl _ (fun w' hw' => NB.run_op_load_agg rfl rfl Try.underlying95 rfl 97 (rW (i : Int) b).toArray (0, 0) hr3 (m := 64) (by kernel_rfl) (by simp [rW, h64]) (b.map NB.u8v).toArray hq2.out hw') (fun K hK => ?_); go_simp; refine hK _ ?_; clear hK K
          refine NB.t_p 8 rfl (by kernel_rfl) (fun K hK => ?_); go_simp; refine hK _ ?_; clear hK K
          refine NB.t_w 9 rfl (by kernel_rfl) (by kernel_rfl) rfl (fun Q' hK => ?_)
          refine NB.wpList_store_agg_any rfl 95 (.tmp 34) (.tmp 33) rfl rfl bl (i * 64) (b.map NB.u8v).toArray ?_ rfl 95 (NB.flatL (midD D1 k).l).toArray hl3'.out (info_b h64) HL.out (NB.u8v_one b) _ hset.out ?_
          · rfl
          intro w4 hg4 hr4 hs4
          refine hK _ _ ?_
          clear hK Q'
          refine NB.t_end (by kernel_rfl) ?_
          have hd4 := hd3.laid i b h64 hg4 hr4
          rw [← midD_succ D1 k i b HWK.out] at hd4
          have hk4 : Kp (footD p bl vW) w' w4 := (hkk.trans_below B3 hkk.size).grown hg4 (fun k e => .inl (.inr (.inl (by cases e; rfl))))
          go_wp2_with (fail)
          go_roundw
          case rel => exact ⟨k + 1, by omega, by go_num, hd4, hk4⟩
          case measure => simp [intOf]; omega
        · obtain rfl : k = D.waits.length := by omega
          have hp := hdk.hp
          have c1 : wr.cell? ⟨p, 1, none⟩ = some vW := hdk.cell 1 _ rfl
          have f1 := hdk.free 1
          have hs := hdk.sure 1 rfl
          go_wp2_with (fail)
          go_ret
          refine ⟨rfl, .slice none 0 0, ?_, hkk.setCell (.inl (.inl rfl)) _, fun k hk => nomatch hk⟩
          rw [hDw]
          exact hs
end Go.Proofs.Ytmgkaoenjnnlmaa
