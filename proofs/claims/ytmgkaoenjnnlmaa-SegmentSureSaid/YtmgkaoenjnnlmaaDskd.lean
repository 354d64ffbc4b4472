/- The disk's Read, walked. -/
import Derived.Test.YtmgkaoenjnnlmaaDskc
namespace Go.Proofs.Ytmgkaoenjnnlmaa
open Go.RowKit
open Go.NB (Rd Dk Kp footD)

/-- Bytes and an error, in new memory. -/
def ReadD (w : World) (r : List UInt8 × Int) (e : Ending) (w' : World) : Prop :=
  ∃ a c, e = .returned (.tuple #[.slice a r.1.length c, .int .i64 r.2]) ∧ NB.OwnB w' w.heap.size 5 (.slice a r.1.length c) r.1 ∧ Below w.heap.size w w'

theorem readD_err (w : World) (x : Int) : ReadD w ([], x) (.returned (.tuple #[.slice none 0 0, .int .i64 x])) w :=
  ⟨none, 0, rfl, World.ownsRow_nil _ _ _ _, Below.refl _ _⟩

set_option maxHeartbeats 400000 in
theorem read_nil (w : World) (i : Int) : Calls Try.prog 59 #[.pointer none, .int .i64 i] w (ReadD w ([], 1)) := by
  go_enter Try.func59, Try.ntmps59
  go_wp2_with (go_at_call 52; refine (at_nil _ _).mono ?_; rintro e w' ⟨rfl, rfl⟩)
  go_ret2
  exact readD_err _ _

/-- A block's row of cells. -/
def zB : List Value := List.replicate 64 (.int .u8 0)
theorem zero_b (w : World) : (zeroValue 95).run Try.prog w = .ok (.agg zB.toArray) w := by
  have hi : (Try.prog.info? 95).bind (·.zero) = some (.agg zB.toArray) := by kernel_rfl
  cases hq : Try.prog.info? 95 with
  | none => rw [hq] at hi; cases hi
  | some i =>
    rw [hq] at hi
    have hz : i.zero = some (.agg zB.toArray) := hi
    simp [zeroValue, typeInfo, hq, hz]

theorem rW_tail (i : Nat) (b : List UInt8) (h64 : b.length = 64) : (rW (i : Int) b).toArray.extract 1 (1 + 64) = (b.map NB.u8v).toArray := by
  apply Array.ext'
  simp only [rW, List.extract_toArray, List.extract_eq_take_drop, List.drop_succ_cons, List.drop_zero]
  exact List.take_of_length_le (by simp [h64])

theorem grown_old {w w' : World} {G : Nat} {o o' : Obj} (h : w.heap[G]? = some o) (hg : (w.alloc o').grownBy w' (some w.heap.size)) : w'.heap[G]? = some o := by
  have hlt := (Array.getElem?_eq_some_iff.1 h).1
  rw [hg.block G (by simp; omega) (fun e => by cases e; omega), ← h]
  exact Below.heap_alloc w o' G hlt
theorem below_size {w w' : World} {G : Nat} {o o' : Obj} (h : w.heap[G]? = some o) (hg : (w.alloc o').grownBy w' (some w.heap.size)) : G < w'.heap.size := (Array.getElem?_eq_some_iff.1 (grown_old h hg)).1
theorem below_grown {w0 w w' : World} {G : Nat} {o o' : Obj} (h : w.heap[G]? = some o) (hB : Below G w0 w) (hg : (w.alloc o').grownBy w' (some w.heap.size)) : Below G w0 w' := by
  have hlt := (Array.getElem?_eq_some_iff.1 h).1
  exact (hB.alloc (by omega) _).grown hg (by simp; omega) (by rintro k hk; cases hk; omega)

theorem see_succ (ws : List (Nat × List UInt8)) (b0 : List UInt8) (q k i : Nat) (b : List UInt8) (h : ws[k]? = some (i, b)) :
    Dk.see b0 (ws.take (k + 1)) q = if i = q then b else Dk.see b0 (ws.take k) q := by
  obtain ⟨hk, e⟩ := List.getElem?_eq_some_iff.1 h
  unfold Dk.see
  rw [List.take_succ_eq_append_getElem hk, e, List.foldl_append]
  rfl

set_option maxHeartbeats 1000000 in
theorem read_any (w : World) (base p bl : Nat) (vW : Value) (D : Dk) (i : Int) (h : IsD w base p bl vW D) (hwn : D.waits.length ≤ 1000000) :
    Calls Try.prog 59 #[.pointer (some ⟨p, 0, none⟩), .int .i64 i] w (ReadD w (D.read i)) := by
  by_cases h1 : D.at_ i = 0
  · obtain ⟨hi0, hi1⟩ := NB.at_zero h1
    obtain ⟨q, rfl⟩ : ∃ q : Nat, i = q := ⟨i.toNat, by omega⟩
    have hq : D.read q = (Dk.see (D.l.getD q []) (D.waits.take D.waits.length) q, 0) := by simp [Dk.read, h1]
    rw [hq]
    have hql : q < D.l.length := by omega
    have hn := h.n
    have hl := h.hl
    have h64 : (D.l.getD q []).length = 64 := by
      rw [List.getD, List.getElem?_eq_getElem hql]; exact h.l64 _ (List.getElem_mem hql)
    have hat := NB.flatL_at h.l64 q hql
    have hlen : q * 64 + 64 ≤ (NB.flatL D.l).toArray.size := by
      have := NB.flatL_len h.l64
      simp only [List.size_toArray, this]
      omega
    generalize D.l.getD q [] = b0 at *
    have HL := Go.Lib.hid hl; have HAT := Go.Lib.hid hat; have HLEN := Go.Lib.hid hlen
    clear hl hat hlen hq
    have c0 := h.cell 0 _ rfl
    obtain ⟨a0, cp0, hv0, hr0, _⟩ := NB.rd_of_own h.hw
    have hb0 := Rd.bound hr0
    have kz := zero_w
    have kb := zero_b
    have hB0 : (b0.map NB.u8v).length = 64 := by simpa using h64
    go_enter Try.func59, Try.ntmps59
    go_wp2_with (first
      | (go_at_call 52; refine (at_any _ _ _ _ _ _ _ h).mono ?_; rw [h1]; rintro e w' ⟨rfl, e2⟩; subst w')
      | (refine NB.wpList_load_agg rfl 95 (.tmp 21) rfl bl (q * 64) 64 rfl 95 (NB.flatL D.l).toArray (0, 0) _ HL.out Try.underlying95 rfl (by kernel_rfl) HLEN.out (b0.map NB.u8v).toArray HAT.out ?_)
      | (refine NB.wpList_store_agg_any rfl 95 (.tmp 7) (.tmp 22) rfl rfl w.heap.size 0 (b0.map NB.u8v).toArray rfl rfl 95 zB.toArray (heap_alloc_new w _) (info_b h64) (by simp [zB, h64]) (NB.u8v_one b0) (b0.map NB.u8v).toArray (NB.splice_all _ _ (by simp [zB, h64])) ?_; intro w2 hg2 hr2 hs2; have c1 : w2.cell? ⟨p, 1, none⟩ = some (.slice a0 D.waits.length cp0) := by rw [← hv0]; exact (h.below (((Below.refl _ w).alloc (Nat.le_refl _) _).grown hg2 (by simp) (by rintro k hk; cases hk; exact Nat.le_refl _))).cell 1 _ rfl))
    have B2 : Below w.heap.size w w2 := (((Below.refl _ w).alloc (Nat.le_refl _) _).grown hg2 (by simp) (by rintro k hk; cases hk; exact Nat.le_refl _))
    generalize hG : w.heap.size = G at *
    have HG0 := Go.Lib.hid hG; clear hG
    have hG2 : w2.heap.size = G + 1 := by rw [hs2]; simp [HG0.out]
    clear hg2 hs2
    go_loopw [28] (fun i wr => ∃ k : Nat, k ≤ D.waits.length ∧ i = .int .i64 k ∧ Below G w wr ∧ ∃ b : List UInt8, b = Dk.see b0 (D.waits.take k) q ∧ b.length = 64 ∧ wr.heap[G]? = some (.cells (b.map NB.u8v).toArray 95 (0, 0))) (fun i _ => D.waits.length - (intOf i).toNat)
    case atStart => exact ⟨0, by omega, rfl, B2, b0, rfl, h64, hr2⟩
    case round =>
      clear B2 c1
      obtain ⟨k, hk, rfl, hB, bk, hbk, hbk64, hrk⟩ := hrel
      have HBK := Go.Lib.hid hbk; clear hbk
      by_cases hlt : k < D.waits.length
      · have hdk := h.below (by rw [HG0.out]; exact hB)
        obtain ⟨g, cap, cur, x, b, hv, hcl, hcm, hg, hcs, hex, hwk, hx64, hil⟩ := hdk.wait_at k hlt
        rw [hv0] at hv
        injection hv with e1 e2 e3
        subst e1 e3
        clear e2
        have HEX := Go.Lib.hid hex; have HWK := Go.Lib.hid hwk; have HCS := Go.Lib.hid hcs; have HG := Go.Lib.hid hg
        clear hex hwk hcs hg
        have hki : (k : Int) < (D.waits.length : Int) := by omega
        have HRK := Go.Lib.hid hrk; clear hrk
        by_cases hxq : x = q
        · subst x
          go_wp2_with (first
            | (refine NB.wpList_load_agg rfl 97 (.tmp 30) rfl g (k * 65) 65 ?hx 97 cur (0, 0) _ HG.out Try.underlying97 rfl (by kernel_rfl) HCS.out (rW (q : Int) b).toArray HEX.out ?_; case hx => simp [Act.eval]; try omega)
            | (refine NB.wpList_store_agg_any rfl 97 (.tmp 9) (.tmp 31) rfl rfl wr.heap.size 0 (rW (q : Int) b).toArray rfl rfl 97 (zW 0).toArray (heap_alloc_new wr _) (info_r hx64) (by simp [rW, zW, hx64]) (rW_one _ b) (rW (q : Int) b).toArray (NB.splice_all _ _ (by simp [rW, zW, hx64])) ?_; intro w3 hg3 hr3 hs3; have q1 : w3.cell? ⟨wr.heap.size, 0, none⟩ = some (.int .i64 (q : Int)) := by rw [cell_of_row _ _ _ _ _ _ hr3]; rfl)
            | (refine NB.wpList_load_agg rfl 95 (.tmp 36) rfl wr.heap.size 1 64 rfl 97 (rW (q : Int) b).toArray (0, 0) _ hr3 Try.underlying95 rfl (by kernel_rfl) (by simp [rW, hx64]) (b.map NB.u8v).toArray (rW_tail q b hx64) ?_)
            | (refine NB.wpList_store_agg_any rfl 95 (.tmp 7) (.tmp 37) rfl rfl G 0 (b.map NB.u8v).toArray rfl rfl 95 (bk.map NB.u8v).toArray (grown_old HRK.out hg3) (info_b hx64) (by simp [hbk64, hx64]) (NB.u8v_one b) (b.map NB.u8v).toArray (NB.splice_all _ _ (by simp [hbk64, hx64])) ?_; intro w4 hg4 hr4 hs4))
          go_roundw
          case rel => exact ⟨k + 1, by omega, by go_num, (below_grown HRK.out hB hg3).grown hg4 (by have := below_size HRK.out hg3; omega) (by rintro k hk; cases hk; exact Nat.le_refl _), b, by rw [see_succ D.waits b0 q k q b HWK.out, if_pos rfl], hx64, hr4⟩
          case measure => simp [intOf]; omega
        · have hxe : ((x : Int) == (q : Int)) = false := by simp; omega
          go_wp2_with (first
            | (refine NB.wpList_load_agg rfl 97 (.tmp 30) rfl g (k * 65) 65 ?hx 97 cur (0, 0) _ HG.out Try.underlying97 rfl (by kernel_rfl) HCS.out (rW (x : Int) b).toArray HEX.out ?_; case hx => simp [Act.eval]; try omega)
            | (refine NB.wpList_store_agg_any rfl 97 (.tmp 9) (.tmp 31) rfl rfl wr.heap.size 0 (rW (x : Int) b).toArray rfl rfl 97 (zW 0).toArray (heap_alloc_new wr _) (info_r hx64) (by simp [rW, zW, hx64]) (rW_one _ b) (rW (x : Int) b).toArray (NB.splice_all _ _ (by simp [rW, zW, hx64])) ?_; intro w3 hg3 hr3 hs3; have q1 : w3.cell? ⟨wr.heap.size, 0, none⟩ = some (.int .i64 (x : Int)) := by rw [cell_of_row _ _ _ _ _ _ hr3]; rfl))
          go_roundw
          case rel => exact ⟨k + 1, by omega, by go_num, below_grown HRK.out hB hg3, bk, by rw [see_succ D.waits b0 q k x b HWK.out, if_neg hxq]; exact HBK.out, hbk64, grown_old HRK.out hg3⟩
          case measure => simp [intOf]; omega
      · obtain rfl : k = D.waits.length := by omega
        have hrd := NB.rdB_row hrk hbk64 (by unfold maxLen; omega)
        go_wp2_with (first
          | (go_at_call 41; refine (clone_any _ _ _ _ _ hrd (by omega)).mono ?_; rintro e w5 ⟨a5, c5, rfl, ho5, hb5⟩))
        go_ret2
        rw [← HBK.out]
        have hsz := hB.size
        exact ⟨a5, c5, by rw [show (bk, (0 : Int)).1.length = 64 from hbk64]; rfl, NB.own_mono ho5 hsz, (show Below w.heap.size w wr by rw [HG0.out]; exact hB).trans (hb5.mono hsz)⟩
  · have hq : D.read i = ([], D.at_ i) := by simp [Dk.read, h1]
    have hne : (D.at_ i != 0) = true := by simp [h1]
    rw [hq]
    go_enter Try.func59, Try.ntmps59
    go_wp2_with (first
      | (go_at_call 52; refine (at_any _ _ _ _ _ _ _ h).mono ?_; rintro e w' ⟨rfl, rfl⟩))
    go_ret2
    exact readD_err _ _
end Go.Proofs.Ytmgkaoenjnnlmaa
