/- The writer of numbers, walked. -/
import Derived.Test.YtjfidhjnbcmhfaaRows
import Derived.Test.YtjfidhjnbcmhfaaNum
import Derived.Test.YtjfidhjnbcmhfaaSlc
namespace Go.Proofs.Ytjfidhjnbcmhfaa
open Go.RowKit
open Go.NB (Rd Kp Stp Off Dis digs encU encB Rr footW)

abbrev HasW (w : World) (base p : Nat) (F : Nat → Prop) (bs : List UInt8) : Prop := NB.HasWr 111 5 w base p F bs
abbrev IsW (w : World) (base p : Nat) (v : Value) (bs : List UInt8) : Prop := NB.IsWr 111 5 w base p v bs

set_option maxHeartbeats 400000 in
theorem size_any (w : World) (x : Nat) (hx : x < 18446744073709551616) :
    Calls Try.prog 53 #[.int .u64 (x : Int)] w fun e w' => e = .returned (.int .i64 ((digs x).length : Int)) ∧ w' = w := by
  have h8 := NB.digs_le8 hx
  go_enter Try.func53, Try.ntmps53
  go_wp2
  go_step3
  go_wp2
  go_step3
  go_wp2
  go_loop [3] (fun i => ∃ k : Nat, k ≤ (digs x).length ∧ i = .int .i64 k) (fun i => 8 - (intOf i).toNat)
  case atStart => exact ⟨0, by omega, rfl⟩
  case round =>
    obtain ⟨k, hk, rfl⟩ := hrel
    have hz := NB.shr_zero x k
    by_cases hlt : k < (digs x).length
    · rw [decide_eq_false (by omega)] at hz
      go_wp2
      go_round
      case rel => exact ⟨k + 1, by omega, by go_num⟩
      case measure => simp [intOf]; omega
    · obtain rfl : k = (digs x).length := by omega
      rw [decide_eq_true (by omega)] at hz
      go_wp2
      all_goals
        go_ret
        exact ⟨rfl, rfl⟩

/-- What a call of a writer leaves. -/
def PutW (w : World) (base p : Nat) (F : Nat → Prop) (bs : List UInt8) (e : Ending) (w' : World) : Prop :=
  e = .returned (.tuple #[]) ∧ ∃ F', HasW w' base p F' bs ∧ Stp F F' w w'

set_option maxHeartbeats 400000 in
theorem wuint_nil (w : World) (v : Value) : Calls Try.prog 38 #[.pointer none, v] w fun e w' => e = .returned (.tuple #[]) ∧ w' = w := by
  go_enter Try.func38, Try.ntmps38
  go_wp2
  refine bodyPost_ret (results_none rfl _ _ _) rfl ?_
  exact ⟨rfl, rfl⟩

theorem byte_rd (w : World) (x : Int) {g : Nat} (hg : g = w.heap.size) : Rd 1 (w.alloc (.cells #[.int .u8 x] 5)) (some ⟨g, 0, none⟩) 1 1 [.int .u8 x] :=
  NB.rd_new w #[.int .u8 x] 5 1 rfl (by unfold maxLen; omega) hg
theorem byte_one (x : Int) : ∀ u ∈ [Value.int .u8 x], u.oneCell' = true := by
  intro u hu
  obtain rfl : u = .int .u8 x := by simpa using hu
  rfl

/-- Bytes are put: what is held behind the append and the store. -/
theorem put_any {w w' : World} {base p : Nat} {v v' : Value} {bs cs : List UInt8} {n : Nat} {xs : List Value} (h : IsW w base p v bs) (hg : w.grownBy w' v.ownBlock) (ho : w'.ownsRow base 5 1 v' n xs)
    (hx : xs = (bs ++ cs).map NB.u8v) (hv : ∀ k, v'.ownBlock = some k → v.ownBlock = some k ∨ w.heap.size ≤ k) :
    IsW (w'.setCell ⟨p, 0, none⟩ v') base p v' (bs ++ cs) ∧ Stp (footW p v) (footW p v') w (w'.setCell ⟨p, 0, none⟩ v') ∧ w'.cell? ⟨p, 0, none⟩ = some v ∧ w'.frozen? ⟨p, 0, none⟩ = false ∧ ∃ a c, v' = .slice a (bs ++ cs).length c := by
  subst hx
  have hn : n = (bs ++ cs).length := by have := ho.1; simpa using this.symm
  subst hn
  have hp := (hg.block p h.lt (fun e => h.ne e.symm)).trans h.hp
  obtain ⟨a, c, e, _⟩ := NB.rd_of_own ho
  exact ⟨h.put hg ho hv, NB.IsWr.put_stp hg hv, by rw [cell_of_row _ _ _ _ _ _ hp]; rfl, frozen_of_row _ _ _ _ _ hp, a, c, e⟩

theorem u8v_snoc (bs : List UInt8) (c : UInt8) (x : Int) (hx : x = (c.toNat : Int)) : bs.map NB.u8v ++ [.int .u8 x] = (bs ++ [c]).map NB.u8v := by
  subst hx; simp [NB.u8v]

theorem byte_of (n : Nat) (h : n ≤ 255) : ((UInt8.ofNat n).toNat : Int) = (n : Int) := by
  rw [UInt8.toNat_ofNat']; omega

set_option maxHeartbeats 1000000 in
theorem wuint_any (w : World) (base p : Nat) (F : Nat → Prop) (bs : List UInt8) (x : Nat) (hx : x < 18446744073709551616) (h : HasW w base p F bs) (hs : bs.length ≤ 100000000000) :
    Calls Try.prog 38 #[.pointer (some ⟨p, 0, none⟩), .int .u64 (x : Int)] w (PutW w base p F (bs ++ encU x)) := by
  obtain ⟨v, h, rfl⟩ := h
  have h8 := NB.digs_le8 hx
  have hbt := byte_of (digs x).length (by omega)
  obtain ⟨a, c, rfl, hr, _⟩ := NB.rd_of_own h.hv
  have c0 := h.cell
  have f0 := h.free
  have hbd := Rd.bound hr
  have hlt := h.lt
  have hbp := h.bp
  go_enter Try.func38, Try.ntmps38
  go_wp2_with (first
    | (go_at_call 53; refine (size_any _ x hx).mono ?_; rintro e w' ⟨rfl, e2⟩; subst w')
    | (at_builtin; refine NB.wpList_append_at rfl (.tmp 13) (.tmp 16) 22 rfl base slTB _ _ (bs.map NB.u8v) rfl (NB.IsWr.below h ((Below.refl _ w).alloc (Nat.le_refl _) _)).hv _ 1 1 [.int .u8 ((digs x).length : Int)] rfl (byte_rd w _ rfl) (byte_one _) (by omega) (by unfold maxLen; omega) (by simp; omega) ?_; intro v1 w1 ho1 hg1 hv1; obtain ⟨hW1, hS1, c1, f1, a1, cc1, rfl⟩ := put_any (h.below ((Below.refl _ w).alloc (Nat.le_refl _) _)) hg1 ho1 (u8v_snoc bs _ _ hbt.symm) hv1; replace hS1 := hS1.alloc_left; clear hg1 ho1 hv1))
  have hS1' := Go.Lib.hid hS1; have hbt' := Go.Lib.hid hbt; clear hS1 hbt c1 f1 c0 f0 h hr hbd
  go_loopw [4] (fun n wr => ∃ k : Nat, k ≤ (digs x).length ∧ n = .int .i64 k ∧ ∃ v, IsW wr base p v (bs ++ UInt8.ofNat (digs x).length :: (digs x).take ((digs x).length - k)) ∧ Stp (footW p (.slice a bs.length c)) (footW p v) w wr) (fun n _ => (intOf n).toNat)
  case atStart => exact ⟨(digs x).length, Nat.le_refl _, rfl, .slice a1 (bs.length + 1) cc1, by rw [Nat.sub_self]; simpa using hW1, by simpa using hS1'.out⟩
  case round =>
    clear hW1 hS1'
    obtain ⟨k, hk, rfl, v2, hW, hS⟩ := hrel
    obtain ⟨a2, c2, e2, hr2, _⟩ := NB.rd_of_own hW.hv
    subst e2
    have hl2 : (bs ++ UInt8.ofNat (digs x).length :: (digs x).take ((digs x).length - k)).length ≤ 100000000009 := by simp; omega
    by_cases hk0 : 0 < k
    · obtain ⟨j, rfl⟩ : ∃ j, k = j + 1 := ⟨k - 1, by omega⟩
      have hat := NB.digs_at x j (by omega)
      generalize hB : bs ++ UInt8.ofNat (digs x).length :: (digs x).take ((digs x).length - (j + 1)) = B at *
      have HB := Go.Lib.hid hB; have HAT := Go.Lib.hid hat; clear hB hat
      have hbd := Rd.bound hr2
      have hlt2 := hW.lt
      go_wp2_with fail
      refine NB.wp_region_t [11, 14] (by kernel_rfl) ?_
      have hW3 := hW.below (Below.refl _ wr).drew
      have hS3 : ∀ F, Stp F F wr wr.drew := fun F => .of_below (Below.refl _ wr).drew
      generalize wr.drew = w3 at *
      have c0 := hW3.cell
      have f0 := hW3.free
      have hw8 : IntKind.i64.wrap (8 * (j : Int)) = 8 * (j : Int) := IntWalk.i64_in _ (by omega)
      have hby := NB.wrap_at x j
      generalize UInt8.ofNat (x / 256 ^ j % 256) = y at *
      have HBY := Go.Lib.hid hby; clear hby
      refine NB.t_p 0 rfl (by kernel_rfl) (fun K hK => ?_); go_simp; refine hK _ ?_; clear hK K
      refine NB.t_p 1 rfl (by kernel_rfl) (fun K hK => ?_); go_simp; refine hK _ ?_; clear hK K
      refine NB.t_p 2 rfl (by kernel_rfl) (fun K hK => ?_); go_simp; refine hK _ ?_; clear hK K
      refine NB.t_p 3 rfl (by kernel_rfl) (fun K hK => ?_); go_simp; refine hK _ ?_; clear hK K
      refine NB.t_r 4 [11, 12, 13, 14] rfl (by kernel_rfl) (by kernel_rfl) rfl _ (fun w' hw' => NB.run_op_load rfl rfl Try.underlying22 rfl c0 hw') (fun K hK => ?_); go_simp; refine hK _ ?_; clear hK K
      refine NB.t_p 5 rfl (by kernel_rfl) (fun K hK => ?_); go_simp; refine hK _ ?_; clear hK K
      refine NB.t_p 6 rfl (by kernel_rfl) (fun K hK => ?_); go_simp; refine hK _ ?_; clear hK K
      refine NB.t_p 7 rfl (by kernel_rfl) (fun K hK => ?_); go_simp; refine hK _ ?_; clear hK K
      refine NB.t_p 8 rfl (by kernel_rfl) (fun K hK => ?_); go_simp; refine hK _ ?_; clear hK K
      refine NB.t_p 9 rfl (by kernel_rfl) (fun K hK => ?_); go_simp; refine hK _ ?_; clear hK K
      rw [HBY.out]
      refine NB.t_m 10 rfl (by kernel_rfl) (by kernel_rfl) rfl (fun K hK => ?_); unfold NB.tmoves; go_simp; refine ⟨(Below.refl _ _).alloc (Nat.le_refl _) _, hK _ _ ?_⟩; clear hK K
      refine NB.t_w 11 rfl (by kernel_rfl) (by kernel_rfl) rfl (fun Q' hK => ?_)
      refine NB.wpList_append_at rfl (.tmp 28) (.tmp 34) 22 rfl base slTB _ _ (B.map NB.u8v) rfl (NB.IsWr.below hW3 ((Below.refl _ w3).alloc (Nat.le_refl _) _)).hv _ 1 1 [.int .u8 (y.toNat : Int)] rfl (byte_rd w3 _ rfl) (byte_one _) (by omega) (by unfold maxLen; omega) (by have := hW3.lt; simp; omega) ?_
      intro v4 w4 ho4 hg4 hv4
      obtain ⟨hW4, hS4, c4, f4, a4, cc4, rfl⟩ := put_any (hW3.below ((Below.refl _ w3).alloc (Nat.le_refl _) _)) hg4 ho4 (u8v_snoc B _ _ rfl) hv4
      replace hS4 := hS4.alloc_left
      clear hg4 ho4 hv4
      refine hK _ _ ?_
      clear hK Q'
      go_simp
      refine NB.t_p 12 rfl (by kernel_rfl) (fun K hK => ?_); go_simp; refine hK _ ?_; clear hK K
      refine NB.t_p 13 rfl (by kernel_rfl) (fun K hK => ?_); go_simp; refine hK _ ?_; clear hK K
      refine NB.t_w 14 rfl (by kernel_rfl) (by kernel_rfl) rfl (fun Q' hK => ?_)
      go_wp2
      refine NB.t_end (by kernel_rfl) ?_
      go_wp2
      go_roundw
      case rel =>
        have e : bs ++ UInt8.ofNat (digs x).length :: (digs x).take ((digs x).length - j) = B ++ [y] := by rw [HAT.out, ← HB.out]; simp
        exact ⟨j, by omega, rfl, .slice a4 (B.length + 1) cc4, by rw [e]; simpa using hW4, by simpa using (hS.trans (hS3 _)).trans hS4⟩
      case measure => simp [intOf]
    · obtain rfl : k = 0 := by omega
      go_wp2
      go_end0
      rw [Nat.sub_zero, List.take_length] at hW
      exact ⟨rfl, _, ⟨_, hW, rfl⟩, by simpa [encU] using hS⟩

set_option maxHeartbeats 400000 in
theorem wraw_nil (w : World) (v : Value) : Calls Try.prog 54 #[.pointer none, v] w fun e w' => e = .returned (.tuple #[]) ∧ w' = w := by
  go_enter Try.func54, Try.ntmps54
  go_wp2
  go_end0
  exact ⟨rfl, rfl⟩

set_option maxHeartbeats 1000000 in
theorem wraw_any (w : World) (base p : Nat) (F : Nat → Prop) (bs : List UInt8) (a : Option Addr) (n c : Nat) (b : List UInt8) (h : HasW w base p F bs) (hb : NB.RdB w a n c b) (hs : bs.length + b.length ≤ 100000000000) :
    Calls Try.prog 54 #[.pointer (some ⟨p, 0, none⟩), .slice a n c] w (PutW w base p F (bs ++ b)) := by
  obtain ⟨v, h, rfl⟩ := h
  obtain ⟨av, cv, rfl, hr, _⟩ := NB.rd_of_own h.hv
  have c0 := h.cell
  have f0 := h.free
  have hsz := NB.RdB.size hb
  have hlt := h.lt
  have hbp := h.bp
  go_enter Try.func54, Try.ntmps54
  go_wp2_with (first
    | (at_builtin; refine NB.wpList_append_at rfl (.tmp 10) (.tmp 11) 22 rfl base slTB _ _ (bs.map NB.u8v) rfl h.hv a n c (b.map NB.u8v) rfl hb (NB.u8v_one b) (by omega) (by unfold maxLen; omega) (by omega) ?_; intro v1 w1 ho1 hg1 hv1; obtain ⟨hW1, hS1, c1, f1, a1, cc1, rfl⟩ := put_any h hg1 ho1 (by rw [List.map_append]) hv1; clear hg1 ho1 hv1))
  go_end0
  exact ⟨rfl, _, ⟨.slice a1 (bs.length + n) cc1, by simpa [hsz] using hW1, rfl⟩, by simpa [hsz] using hS1⟩

set_option maxHeartbeats 400000 in
theorem wbytes_any (w : World) (base p : Nat) (F : Nat → Prop) (bs : List UInt8) (a : Option Addr) (n c : Nat) (b : List UInt8) (h : HasW w base p F bs) (hb : Off F w a n c b) (hs : bs.length + b.length ≤ 90000000000) :
    Calls Try.prog 39 #[.pointer (some ⟨p, 0, none⟩), .slice a n c] w (PutW w base p F (bs ++ encB b)) := by
  have hsz := NB.RdB.size hb.rd
  have hl := NB.encU_len (x := n) (by omega)
  go_enter Try.func39, Try.ntmps39
  go_wp2_with (first
    | (go_at_call 38; refine (wuint_any _ _ _ _ _ n (by omega) h (by omega)).mono ?_; rintro e w1 ⟨rfl, F1, hW1, hS1⟩)
    | (go_at_call 54; refine (wraw_any _ _ _ _ _ _ _ _ _ hW1 (hb.step hS1).rd (by rw [List.length_append]; omega)).mono ?_; rintro e w2 ⟨rfl, F2, hW2, hS2⟩))
  go_end0
  exact ⟨rfl, F2, by rw [NB.encB, hsz, ← List.append_assoc]; exact hW2, hS1.trans hS2⟩

set_option maxHeartbeats 400000 in
theorem wout_nil (w : World) : Calls Try.prog 40 #[.pointer none] w fun e w' => e = .returned (.slice none 0 0) ∧ w' = w := by
  go_enter Try.func40, Try.ntmps40
  go_wp2
  go_ret
  exact ⟨rfl, rfl⟩

set_option maxHeartbeats 400000 in
theorem wout_any (w : World) (base p : Nat) (F : Nat → Prop) (bs : List UInt8) (h : HasW w base p F bs) (hs : bs.length ≤ 100000000000) :
    Calls Try.prog 40 #[.pointer (some ⟨p, 0, none⟩)] w (NB.FreshB 5 w bs) := by
  obtain ⟨v, h, rfl⟩ := h
  obtain ⟨av, cv, rfl, hr, _⟩ := NB.rd_of_own h.hv
  have c0 := h.cell
  go_enter Try.func40, Try.ntmps40
  go_wp2_with (first
    | (go_at_call 44; refine (clone_any _ _ _ _ _ hr (by omega)).mono ?_; rintro e w1 ⟨a1, c1, rfl, ho1, hb1⟩))
  go_ret
  exact ⟨a1, c1, rfl, ho1, hb1⟩

/-- A new one. -/
def NewW (w : World) (e : Ending) (w' : World) : Prop := ∃ p F, e = .returned (.pointer (some ⟨p, 0, none⟩)) ∧ HasW w' w.heap.size p F [] ∧ Below w.heap.size w w'

set_option maxHeartbeats 400000 in
theorem wnew_any (w : World) : Calls Try.prog 37 #[] w (NewW w) := by
  go_enter Try.func37, Try.ntmps37
  go_wp2
  go_ret
  refine ⟨w.heap.size, _, rfl, ⟨.slice none 0 0, ⟨?_, World.ownsRow_nil _ _ _ _, Nat.le_refl _, by simp [Value.ownBlock]⟩, rfl⟩, (Below.refl _ _).alloc (Nat.le_refl _) _⟩
  exact heap_alloc_new w _
end Go.Proofs.Ytjfidhjnbcmhfaa
