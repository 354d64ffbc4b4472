/- The disk's Crash, walked. -/
import Derived.Test.YtmgkaoenjnnlmaaDskd
namespace Go.Proofs.Ytmgkaoenjnnlmaa
open Go.RowKit
open Go.NB (Rd Dk Kp footD)

set_option maxHeartbeats 400000 in
theorem crash_nil (w : World) (v : Value) : Calls Try.prog 14 #[.pointer none, v] w fun e w' => e = .returned (.tuple #[]) ∧ w' = w := by
  go_enter Try.func14, Try.ntmps14
  go_wp2
  refine bodyPost_ret (results_none rfl _ _ _) rfl ?_
  exact ⟨rfl, rfl⟩

theorem mod65 (y : UInt8) : (wrap64 (y.toNat : Int)).tmod 65 = ((y.toNat % 65 : Nat) : Int) := by
  have h := y.toNat_lt
  have e : wrap64 (y.toNat : Int) = (y.toNat : Int) := by unfold wrap64; omega
  rw [e, Int.tmod_eq_emod_of_nonneg (by omega)]
  omega

/-- What a crash leaves. -/
def CrashedD (w : World) (base p bl : Nat) (vW : Value) (D' : Dk) (e : Ending) (w' : World) : Prop :=
  e = .returned (.tuple #[]) ∧ ∃ vW', IsD w' base p bl vW' D' ∧ Kp (footD p bl vW) w w' ∧ ∀ k, vW'.ownBlock = some k → vW.ownBlock = some k

/-- Behind so many of the writes. -/
def torn (D : Dk) (pick : List UInt8) (k : Nat) : Dk := { D with l := Dk.tears D.l (D.waits.take k) pick }

theorem torn_cell {w : World} {g x m : Nat} {b : List UInt8} {t : TypeId} (h : w.heap[g]? = some (.cells (rW (x : Int) b).toArray t (0, 0))) (j : Nat) (v : Value) (hj : ((b.take m).map NB.u8v)[j]? = some v) : w.cell? ((⟨g, 1, none⟩ : Addr).add j) = some v := by
  rw [NB.addr_add, cell_of_row _ _ _ _ _ _ h]
  simp only [List.getElem?_map, List.getElem?_take] at hj
  split at hj
  · simpa [rW, Nat.add_comm 1 j] using hj
  · simp at hj

theorem new_below {w w' : World} {o : Obj} (hg : (w.alloc o).grownBy w' (some w.heap.size)) : Below w.heap.size w w' :=
  ((Below.refl w.heap.size w).alloc (Nat.le_refl _) _).grown hg (by simp) (by rintro k hk; cases hk; exact Nat.le_refl _)

theorem torn_in (D : Dk) (pick : List UInt8) (k i : Nat) (b : List UInt8) (h : D.waits[k]? = some (i, b)) (hk : k < pick.length) :
    torn D pick (k + 1) = { torn D pick k with l := (torn D pick k).l.set i (b.take ((pick.getD k 0).toNat % 65) ++ ((torn D pick k).l.getD i []).drop ((pick.getD k 0).toNat % 65)) } := by
  unfold torn
  rw [NB.tears_succ _ _ _ _ _ h, if_pos hk]
  rfl
theorem torn_out (D : Dk) (pick : List UInt8) (k i : Nat) (b : List UInt8) (h : D.waits[k]? = some (i, b)) (hk : ¬ k < pick.length) : torn D pick (k + 1) = torn D pick k := by
  unfold torn
  rw [NB.tears_succ _ _ _ _ _ h, if_neg hk]

set_option maxHeartbeats 1000000 in
theorem crash_any (w : World) (base p bl : Nat) (vW : Value) (D : Dk) (a : Option Addr) (n c : Nat) (pick : List UInt8) (h : IsD w base p bl vW D) (hb : NB.RdB w a n c pick) (hF : ∀ k o, a = some ⟨k, o, none⟩ → pick ≠ [] → ¬ footD p bl vW k) (hwn : D.waits.length ≤ 1000000) :
    Calls Try.prog 14 #[.pointer (some ⟨p, 0, none⟩), .slice a n c] w (CrashedD w base p bl vW (D.crash pick)) := by
  have hpn := NB.RdB.size hb
  have hbd := Rd.bound hb
  have hfin : D.crash pick = { l := (torn D pick D.waits.length).l, waits := [], left := -1, down := false } := by simp [Dk.crash, torn]
  rw [hfin]
  clear hfin
  obtain ⟨a0, cp0, hv0, hr0, _⟩ := NB.rd_of_own h.hw
  have hb0 := Rd.bound hr0
  have kz := zero_w
  have c1 : w.cell? ⟨p, 1, none⟩ = some (.slice a0 D.waits.length cp0) := by rw [← hv0]; exact h.cell 1 _ rfl
  go_enter Try.func14, Try.ntmps14
  go_wp2_with (fail)
  go_loopw [14] (fun i wr => ∃ k : Nat, k ≤ D.waits.length ∧ i = .int .i64 k ∧ IsD wr base p bl vW (torn D pick k) ∧ Kp (footD p bl vW) w wr) (fun i _ => D.waits.length - (intOf i).toNat)
  case atStart => exact ⟨0, by omega, rfl, by simpa [torn, Dk.tears] using h, Kp.refl _ _⟩
  case round =>
    clear c1
    obtain ⟨k, hk, rfl, hdk, hkk⟩ := hrel
    by_cases hlt : k < D.waits.length
    · obtain ⟨g, cap, cur, x, b, hv, hcl, hcm, hg, hcs, hex, hwk, hx64, hil⟩ := hdk.wait_at k hlt
      rw [hv0] at hv
      injection hv with e1 e2 e3
      subst e1 e3
      clear e2
      have HEX := Go.Lib.hid hex; have HWK := Go.Lib.hid hwk; have HCS := Go.Lib.hid hcs; have HG := Go.Lib.hid hg
      clear hex hwk hcs hg
      have hki : (k : Int) < (D.waits.length : Int) := by omega
      by_cases hkp : k < n
      · have hkpi : (k : Int) < (n : Int) := by omega
        obtain ⟨pb, po, rfl, hc⟩ := NB.RdB.at (hkk.rdB hb hF) (by omega)
        have hck := hc k hkp
        clear hc
        generalize hy : pick.getD k 0 = y at hck
        have HY := Go.Lib.hid hy; clear hy
        have hm := mod65 y
        have hm64 : y.toNat % 65 ≤ 64 := by omega
        generalize hmm : y.toNat % 65 = m at hm hm64
        have HM := Go.Lib.hid hmm; clear hmm
        have hm64' : (m : Int) ≤ 64 := by omega
        go_wp2_with (first
          | (refine NB.wpList_load_agg rfl 97 (.tmp 17) rfl g (k * 65) 65 ?hx 97 cur (0, 0) _ HG.out Try.underlying97 rfl (by kernel_rfl) HCS.out (rW (x : Int) b).toArray HEX.out ?_; case hx => simp [Act.eval]; try omega)
          | (refine NB.wpList_store_agg_any rfl 97 (.tmp 5) (.tmp 18) rfl rfl wr.heap.size 0 (rW (x : Int) b).toArray rfl rfl 97 (zW 0).toArray (heap_alloc_new wr _) (info_r hx64) (by simp [rW, zW, hx64]) (rW_one _ b) (rW (x : Int) b).toArray (NB.splice_all _ _ (by simp [rW, zW, hx64])) ?_; intro w3 hg3 hr3 hs3; have q3 := ((new_below hg3).cell (World.block_lt_of_cell? _ _ hck)).trans hck))
        have B3 : Below wr.heap.size wr w3.drew := ⟨(new_below hg3).os, (new_below hg3).tape, (new_below hg3).output, (new_below hg3).size, (new_below hg3).block⟩
        have hr4 : w3.drew.heap[wr.heap.size]? = some (.cells (rW (x : Int) b).toArray 97 (0, 0)) := hr3
        clear hg3 hr3 hs3 q3 hck
        refine NB.wp_region_t [12] (by kernel_rfl) ?_
        generalize w3.drew = w4 at *
        have hd4 := hdk.below B3
        have q0 := hd4.cell 0 _ rfl
        have q1 : w4.cell? ⟨wr.heap.size, 0, none⟩ = some (.int .i64 (x : Int)) := by rw [cell_of_row _ _ _ _ _ _ hr4]; rfl
        have hil' : (x : Int) < ((torn D pick k).l.length : Int) := by omega
        have hn4 := hd4.n
        have hl4 := Go.Lib.hid hd4.hl
        have hset := Go.Lib.hid (NB.flatL_tear hd4.l64 x hil (b.take m) (by simp; omega))
        have hlen : x * 64 + ((b.take m).map NB.u8v).length ≤ (NB.flatL (torn D pick k).l).length := by
          have := NB.flatL_len hd4.l64
          simp only [List.length_map, List.length_take, this, hx64]
          omega
        have HL := Go.Lib.hid hlen; clear hlen
        refine NB.t_p 0 rfl (by kernel_rfl) (fun K hK => ?_); go_simp; refine hK _ ?_; clear hK K
        refine NB.t_p 1 rfl (by kernel_rfl) (fun K hK => ?_); go_simp; refine hK _ ?_; clear hK K
        refine NB.t_p 2 rfl (by kernel_rfl) (fun K hK => ?_); go_simp; refine hK _ ?_; clear hK K
        refine NB.t_r 3 [6, 8, 12] rfl (by kernel_rfl) (by kernel_rfl) rfl _ (fun w' hw' => NB.run_op_load rfl rfl Try.underlying75 rfl q0 hw') (fun K hK => ?_); go_simp; refine hK _ ?_; clear hK K
        refine NB.t_p 4 rfl (by kernel_rfl) (fun K hK => ?_); go_simp; refine hK _ ?_; clear hK K
        refine NB.t_r 5 [6, 8, 12] rfl (by kernel_rfl) (by kernel_rfl) rfl _ (fun w' hw' => NB.run_op_load rfl rfl Try.underlying3 rfl q1 hw') (fun K hK => ?_); go_simp; refine hK _ ?_; clear hK K
        refine NB.t_p 6 rfl (by kernel_rfl) (fun K hK => ?_); go_simp; refine hK _ ?_; clear hK K
        refine NB.t_p 7 rfl (by kernel_rfl) (fun K hK => ?_); go_simp; refine hK _ ?_; clear hK K
        refine NB.t_p 8 rfl (by kernel_rfl) (fun K hK => ?_); go_simp; refine hK _ ?_; clear hK K
        refine NB.t_p 9 rfl (by kernel_rfl) (fun K hK => ?_); go_simp; refine hK _ ?_; clear hK K
        refine NB.t_p 10 rfl (by kernel_rfl) (fun K hK => ?_); go_simp; refine hK _ ?_; clear hK K
        refine NB.t_p 11 rfl (by kernel_rfl) (fun K hK => ?_); go_simp; refine hK _ ?_; clear hK K
        refine NB.t_w 12 rfl (by kernel_rfl) (by kernel_rfl) rfl (fun Q' hK => ?_)
        refine NB.wpList_copy_at rfl (.tmp 37) (.tmp 40) 23 23 rfl 5 Try.underlying23 (by kernel_rfl) (some ⟨bl, x * 64, none⟩) (some ⟨wr.heap.size, 1, none⟩) m 64 m 64 rfl rfl bl (x * 64) (NB.flatL (torn D pick k).l) 95 hl4.out ((b.take m).map NB.u8v) (by simp [hx64, hm64]) (fun _ => ⟨rfl, _, rfl, fun j v hj => torn_cell hr4 j v hj⟩) HL.out (NB.u8v_one _) ?_
        intro w5 hr5 hg5
        refine hK _ _ ?_
        clear hK Q'
        refine NB.t_end (by kernel_rfl) ?_
        rw [hset.out] at hr5
        have hbl : ((b.take m) ++ ((torn D pick k).l.getD x []).drop (b.take m).length).length = 64 := by
          have : ((torn D pick k).l.getD x []).length = 64 := by rw [List.getD, List.getElem?_eq_getElem hil]; exact hd4.l64 _ (List.getElem_mem hil)
          simp only [List.length_append, List.length_drop, List.length_take, this, hx64]; omega
        have hd5 := hd4.laid x _ hbl hg5 hr5
        have hk5 : Kp (footD p bl vW) w w5 := (hkk.trans_below B3 hkk.size).grown hg5 (fun k e => .inl (.inr (.inl (by cases e; rfl))))
        have hbt : (b.take m).length = m := by rw [List.length_take, hx64]; omega
        rw [hbt] at hd5
        have htn := torn_in D pick k x b HWK.out (by omega)
        rw [HY.out, HM.out] at htn
        rw [← htn] at hd5
        go_wp2_with (fail)
        go_roundw
        case rel => exact ⟨k + 1, by omega, by go_num, hd5, hk5⟩
        case measure => simp [intOf]; omega
      · go_wp2_with (first
          | (refine NB.wpList_load_agg rfl 97 (.tmp 17) rfl g (k * 65) 65 ?hx 97 cur (0, 0) _ HG.out Try.underlying97 rfl (by kernel_rfl) HCS.out (rW (x : Int) b).toArray HEX.out ?_; case hx => simp [Act.eval]; try omega)
          | (refine NB.wpList_store_agg_any rfl 97 (.tmp 5) (.tmp 18) rfl rfl wr.heap.size 0 (rW (x : Int) b).toArray rfl rfl 97 (zW 0).toArray (heap_alloc_new wr _) (info_r hx64) (by simp [rW, zW, hx64]) (rW_one _ b) (rW (x : Int) b).toArray (NB.splice_all _ _ (by simp [rW, zW, hx64])) ?_; intro w3 hg3 hr3 hs3))
        go_roundw
        case rel => exact ⟨k + 1, by omega, by go_num, by rw [torn_out D pick k x b HWK.out (by omega)]; exact hdk.below (new_below hg3), hkk.trans_below (new_below hg3) hkk.size⟩
        case measure => simp [intOf]; omega
    · obtain rfl : k = D.waits.length := by omega
      have c1 := hdk.cell 1 _ rfl
      have f1 := hdk.free 1
      have c2 := hdk.cell 2 _ rfl
      have f2 := hdk.free 2
      have c3 := hdk.cell 3 _ rfl
      have f3 := hdk.free 3
      have hn := hdk.anew
      go_wp2_with (fail)
      go_end0
      exact ⟨rfl, _, hn, ((hkk.setCell (.inl (.inl rfl)) _).setCell (.inl (.inl rfl)) _).setCell (.inl (.inl rfl)) _, fun k hk => nomatch hk⟩
end Go.Proofs.Ytmgkaoenjnnlmaa
