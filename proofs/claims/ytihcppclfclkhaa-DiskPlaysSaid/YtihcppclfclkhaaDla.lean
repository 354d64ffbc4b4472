/- The disk's statements: 'filled', walked. -/
import Derived.Test.YtihcppclfclkhaaDskf
namespace Go.Proofs.Ytihcppclfclkhaa
open Go.RowKit
open Go.NB (Rd Dk Kp footD)

/-- The first 'k' bytes, and noughts behind. -/
def padL (b : List UInt8) (k : Nat) : List UInt8 := b.take k ++ List.replicate (64 - k) 0
theorem padL_len (b : List UInt8) (k : Nat) (h : k ≤ b.length) (h2 : k ≤ 64) : (padL b k).length = 64 := by
  simp [padL]; omega
theorem padL_succ (b : List UInt8) (k : Nat) (h : k < b.length) (h2 : k < 64) : (padL b k).set k (b.getD k 0) = padL b (k + 1) := by
  have hl : (b.take k).length = k := by simp; omega
  unfold padL
  rw [NB.take_getD b k h (d := 0), List.set_append_right _ _ (by omega), hl, Nat.sub_self, show 64 - k = (64 - (k + 1)) + 1 by omega, List.replicate_succ, List.set_cons_zero, List.append_assoc]
  rfl
def filledL (b : List UInt8) (odd : Bool) : List UInt8 :=
  let o := padL b (min 64 b.length)
  let o := if b = [] then o else o.set 63 (b.getD 0 0)
  if odd then o.take 63 else o
theorem set_u8v (l : List UInt8) (k : Nat) (x : UInt8) : ((l.map NB.u8v).toArray.setIfInBounds k (NB.u8v x)) = ((l.set k x).map NB.u8v).toArray := by
  simp
theorem made_bytes : (madeCells #[.int .u8 0] 64).toList = ((List.replicate 64 (0 : UInt8)).map NB.u8v) := by kernel_rfl

/-- A row of bytes that is the call's own, from its head. -/
theorem ownB_row {w : World} {base g : Nat} {bs : List UInt8} {t : TypeId} (h : w.heap[g]? = some (.cells (bs.map NB.u8v).toArray t (0, 0))) (hb : base ≤ g) (k : Nat) (hk : k ≤ bs.length) (hm : bs.length ≤ maxLen) : NB.OwnB w base t (.slice (some ⟨g, 0, none⟩) k bs.length) (bs.take k) := by
  have hl : (bs.take k).length = k := by simp; omega
  unfold NB.OwnB
  rw [hl]
  exact ⟨by simp; omega, .inr ⟨g, bs.length, _, rfl, hb, h, hk, hm, by simp, by simp [List.map_take]⟩⟩

theorem fresh_row {w w' : World} {G : Nat} {X : List UInt8} {t : TypeId} (hG : w.heap.size = G) (h : w'.heap[G]? = some (.cells (X.map NB.u8v).toArray t (0, 0))) (hX : X.length = 64) (hB : Below G w w') (k : Nat) (hk : k ≤ 64) : NB.FreshB t w (X.take k) (.returned (.slice (some ⟨G, 0, none⟩) k 64)) w' := by
  subst hG
  have hl : (X.take k).length = k := by simp; omega
  have := ownB_row h (Nat.le_refl _) k (by omega) (by unfold maxLen; omega)
  rw [hX] at this
  exact ⟨some ⟨w.heap.size, 0, none⟩, 64, by rw [hl], by rw [hl]; exact this, hB⟩
theorem fresh_all {w w' : World} {G : Nat} {X : List UInt8} {t : TypeId} (hG : w.heap.size = G) (h : w'.heap[G]? = some (.cells (X.map NB.u8v).toArray t (0, 0))) (hX : X.length = 64) (hB : Below G w w') : NB.FreshB t w X (.returned (.slice (some ⟨G, 0, none⟩) 64 64)) w' := by
  have := fresh_row hG h hX hB 64 (Nat.le_refl _)
  rwa [List.take_of_length_le (by omega)] at this

set_option maxHeartbeats 1000000 in
theorem filled_any (w : World) (a : Option Addr) (n c : Nat) (b : List UInt8) (odd : Bool) (h : NB.RdB w a n c b) : Calls Try.prog 11 #[.slice a n c, .bool odd] w (NB.FreshB 5 w (filledL b odd)) := by
  obtain ⟨i, hi, hz, hsz, hby⟩ := slTB.hi
  have hs := NB.RdB.size h
  have hbd := Rd.bound h
  go_enter Try.func11, Try.ntmps11
  go_wp2_with (first
    | (refine wpList_make_full w rfl (.const (.int .i64 64)) (.const (.int .i64 64)) 22 rfl w.heap.size 5 i (.int .u8 0) 1 slTB.ht hi hz hsz .i64 .i64 64 64 64 rfl rfl rfl rfl (by rw [hby]; omega) (by unfold maxLen; omega) (Nat.le_refl _) ?_; intro w2 ho2 hg2))
  have hr2 : w2.heap[w.heap.size]? = some (.cells ((padL b 0).map NB.u8v).toArray 5 (0, 0)) := by
    have := row_full ho2
    rw [show (Value.int IntKind.u8 0).cells = #[.int .u8 0] from rfl, Nat.mul_one, made_bytes] at this
    exact this
  have hB2 : Below w.heap.size w w2 := (Below.refl _ w).grown hg2 (Nat.le_refl _) (by rintro k hk; cases hk)
  clear ho2 hg2
  generalize hG : w.heap.size = G at *
  have HG0 := Go.Lib.hid hG; clear hG
  go_loopw [6] (fun i wr => ∃ k : Nat, k ≤ 64 ∧ k ≤ n ∧ i = .int .i64 k ∧ Below G w wr ∧ wr.heap[G]? = some (.cells ((padL b k).map NB.u8v).toArray 5 (0, 0))) (fun i _ => 64 - (intOf i).toNat)
  case atStart => exact ⟨0, by omega, by omega, rfl, hB2, hr2⟩
  case round =>
    clear hB2 hr2
    obtain ⟨k, hk, hkn, rfl, hB, hr⟩ := hrel
    have hrw := h.below (w' := wr) (by rw [HG0.out]; exact hB)
    have hlen : ((padL b k).map NB.u8v).toArray.size = 64 := by simpa using padL_len b k (by omega) hk
    by_cases hlt : k < 64 ∧ k < n
    · obtain ⟨b0, o0, rfl, hc⟩ := NB.RdB.at hrw (by omega)
      have hck := hc k hlt.2
      clear hc
      obtain ⟨h1, h2⟩ := hlt
      have h1' : (k : Int) < 64 := by omega
      have h2' : (k : Int) < (n : Int) := by omega
      generalize hy : b.getD k 0 = y at hck
      have HY := Go.Lib.hid hy; clear hy
      have hfr : wr.frozen? ⟨G, k, none⟩ = false := frozen_of_row _ _ _ _ _ hr
      have hcl : wr.cell? ⟨G, k, none⟩ = some (((padL b k).map NB.u8v).toArray[k]'(by omega)) := by
        rw [cell_of_row _ _ _ _ _ _ hr]; exact Array.getElem?_eq_getElem _
      generalize (((padL b k).map NB.u8v).toArray[k]'(by omega)) = old at hcl
      have HR := Go.Lib.hid hr; clear hr
      have hlen' := Go.Lib.hid hlen; clear hlen
      go_wp2_with (fail)
      go_roundw
      case rel => exact ⟨k + 1, by omega, by omega, by go_num, hB.setCell (Nat.le_refl _) _, by
        rw [heap_setCell_same _ _ _ _ _ _ HR.out, ← padL_succ b k (by omega) h1, HY.out]
        exact congrArg (fun x => some (Obj.cells x 5 (0, 0))) (set_u8v (padL b k) k y)⟩
      case measure => simp [intOf]; omega
    · have hkm : k = min 64 b.length := by omega
      have hfin : filledL b odd = (if odd then (if b = [] then padL b k else (padL b k).set 63 (b.getD 0 0)).take 63 else (if b = [] then padL b k else (padL b k).set 63 (b.getD 0 0))) := by
        unfold filledL; rw [hkm]
      have hpl := padL_len b k (by omega) hk
      have hsz := hB.size
      by_cases hn0 : n = 0
      · obtain rfl : b = [] := List.eq_nil_of_length_eq_zero (by omega)
        subst hn0
        obtain rfl : k = 0 := by omega
        simp only [if_true] at hfin
        have HFIN := Go.Lib.hid hfin
        clear hk hkn hlt hkm hfin
        cases odd with
        | false =>
          go_wp2_with (fail)
          go_ret
          rw [show filledL [] false = padL [] 0 from HFIN.out]
          exact fresh_all HG0.out hr hpl hB
        | true =>
          go_wp2_with (fail)
          go_ret
          rw [show filledL [] true = (padL [] 0).take 63 from HFIN.out]
          exact fresh_row HG0.out hr hpl hB 63 (by omega)
      · have hbn : b ≠ [] := by rintro rfl; simp at hs; omega
        rw [if_neg hbn] at hfin
        obtain ⟨b0, o0, rfl, hc⟩ := NB.RdB.at hrw (by omega)
        have hck := hc 0 (by omega)
        rw [Nat.add_zero] at hck
        clear hc
        have hn0' : (0 : Int) < (n : Int) := by omega
        generalize hy : b.getD 0 0 = y at hck hfin
        have hfr : wr.frozen? ⟨G, 63, none⟩ = false := frozen_of_row _ _ _ _ _ hr
        have hcl : wr.cell? ⟨G, 63, none⟩ = some (((padL b k).map NB.u8v).toArray[63]'(by omega)) := by
          rw [cell_of_row _ _ _ _ _ _ hr]; exact Array.getElem?_eq_getElem _
        generalize (((padL b k).map NB.u8v).toArray[63]'(by omega)) = old at hcl
        have hset : (wr.setCell ⟨G, 63, none⟩ (.int .u8 (y.toNat : Int))).heap[G]? = some (.cells (((padL b k).set 63 y).map NB.u8v).toArray 5 (0, 0)) := by
          rw [heap_setCell_same _ _ _ _ _ _ hr]
          exact congrArg (fun x => some (Obj.cells x 5 (0, 0))) (set_u8v (padL b k) 63 y)
        have hB2 := hB.setCell (p := ⟨G, 63, none⟩) (Nat.le_refl _) (.int .u8 (y.toNat : Int))
        have hpl2 : ((padL b k).set 63 y).length = 64 := by simpa using hpl
        generalize (padL b k).set 63 y = X at hset hpl2 hfin
        have hkm : 64 ≤ k ∨ k = n ∧ k < 64 := by omega
        have HFIN := Go.Lib.hid hfin
        have HSET := Go.Lib.hid hset; have HB2 := Go.Lib.hid hB2; have HH := Go.Lib.hid h; clear hfin hset hr hlt hlen hpl hy hbn hB2 h hrw hs hsz
        rcases hkm with hk64 | ⟨rfl, hk64⟩
        · have hk64' : (64 : Int) ≤ (k : Int) := by omega
          cases odd with
          | false =>
            go_wp2_with (fail)
            go_ret
            rw [show filledL b false = X from HFIN.out]
            exact fresh_all HG0.out HSET.out hpl2 HB2.out
          | true =>
            go_wp2_with (fail)
            go_ret
            rw [show filledL b true = X.take 63 from HFIN.out]
            exact fresh_row HG0.out HSET.out hpl2 HB2.out 63 (by omega)
        · have hk64' : (k : Int) < 64 := by omega
          cases odd with
          | false =>
            go_wp2_with (fail)
            go_ret
            rw [show filledL b false = X from HFIN.out]
            exact fresh_all HG0.out HSET.out hpl2 HB2.out
          | true =>
            go_wp2_with (fail)
            go_ret
            rw [show filledL b true = X.take 63 from HFIN.out]
            exact fresh_row HG0.out HSET.out hpl2 HB2.out 63 (by omega)
end Go.Proofs.Ytihcppclfclkhaa
