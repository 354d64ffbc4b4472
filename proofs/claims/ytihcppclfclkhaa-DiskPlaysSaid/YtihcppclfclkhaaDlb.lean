/- The disk's statements: 'awake', walked. -/
import Derived.Test.YtihcppclfclkhaaDla
namespace Go.Proofs.Ytihcppclfclkhaa
open Go.RowKit
open Go.NB (Rd Dk Kp footD)

def sevL (k : Nat) : List UInt8 := List.replicate k 7 ++ List.replicate (64 - k) 0
theorem sevL_len (k : Nat) (h : k ≤ 64) : (sevL k).length = 64 := by simp [sevL]; omega
theorem sevL_succ (k : Nat) (h : k < 64) : (sevL k).set k 7 = sevL (k + 1) := by
  unfold sevL
  rw [List.set_append_right _ _ (by simp), List.length_replicate, Nat.sub_self, show 64 - k = (64 - (k + 1)) + 1 by omega, List.replicate_succ (n := 64 - (k + 1)), List.set_cons_zero, List.replicate_succ', List.append_assoc]
  rfl

/-- Where a disk does not lie. -/
theorem notFoot {w : World} {base p bl : Nat} {vW : Value} {D : Dk} (h : IsD w base p bl vW D) {a : Option Addr} {g : Nat} (hg : a = some ⟨g, 0, none⟩) (hl : w.heap.size ≤ g) : ∀ k o, a = some ⟨k, o, none⟩ → ∀ {q : Prop}, q → ¬ footD p bl vW k := by
  intro k o e _ _ hk
  rw [hg] at e
  cases e
  have := (h.foot_lt _ hk).2
  omega

def awD1 : Dk := ((Dk.fresh 2).write 1 (sevL 64)).1
def awD2 : Dk := awD1.crash [5]
theorem aw_w : (Dk.fresh 2).write 1 (sevL 64) = (awD1, 0) := by
  have : ((Dk.fresh 2).write 1 (sevL 64)).2 = 0 := by decide +kernel
  rw [← this]; rfl
theorem aw_ww : awD1.waits.length ≤ 1000000 := by have : awD1.waits.length = 1 := by decide +kernel
                                                  omega
theorem aw_r2 : (awD2.read 1).2 = 0 := by decide +kernel
theorem aw_r1 : (awD2.read 1).1.length = 64 ∧ (awD2.read 1).1.getD 4 0 = 7 ∧ (awD2.read 1).1.getD 5 0 = 0 ∧ awD2.waits.length = 0 := by decide +kernel

theorem aw_cells {w w' : World} {a : Option Addr} {c : Nat} (h : NB.OwnB w' w.heap.size 5 (.slice a (awD2.read 1).1.length c) (awD2.read 1).1) :
    ∃ b o, w'.cell? ⟨b, o + 4, none⟩ = some (.int .u8 7) ∧ w'.cell? ⟨b, o + 5, none⟩ = some (.int .u8 0) ∧ a = some ⟨b, o, none⟩ := by
  obtain ⟨a6, c6, e6, hr6, _⟩ := NB.rd_of_own h
  cases e6
  obtain ⟨h1, h2, h3, _⟩ := aw_r1
  obtain ⟨b, o, e, hc⟩ := NB.RdB.at hr6 (by omega)
  refine ⟨b, o, ?_, ?_, e⟩
  · rw [hc 4 (by omega), h2]; rfl
  · rw [hc 5 (by omega), h3]; rfl

set_option maxHeartbeats 1000000 in
theorem awake_any (w : World) : Calls Try.prog 9 #[] w fun e w' => e = .returned (.bool true) ∧ Below w.heap.size w w' := by
  obtain ⟨i, hi, hz, hsz, hby⟩ := slTB.hi
  go_enter Try.func9, Try.ntmps9
  go_wp2_with (first
    | (go_at_call 10; refine (new_any _ 2 (by omega) (by omega)).mono ?_; rintro e w1 ⟨p, bl, rfl, hd1, hb1⟩)
    | (refine wpList_make_full w1 rfl (.const (.int .i64 64)) (.const (.int .i64 64)) 22 rfl w1.heap.size 5 i (.int .u8 0) 1 slTB.ht hi hz hsz .i64 .i64 64 64 64 rfl rfl rfl rfl (by rw [hby]; omega) (by unfold maxLen; omega) (Nat.le_refl _) ?_; intro w2 ho2 hg2))
  have hr2 : w2.heap[w1.heap.size]? = some (.cells ((sevL 0).map NB.u8v).toArray 5 (0, 0)) := by
    have := row_full ho2
    rw [show (Value.int IntKind.u8 0).cells = #[.int .u8 0] from rfl, Nat.mul_one, made_bytes] at this
    exact this
  have hB2 : Below w1.heap.size w1 w2 := (Below.refl _ w1).grown hg2 (Nat.le_refl _) (by rintro k hk; cases hk)
  clear ho2 hg2
  generalize hG : w1.heap.size = G at *
  have HG0 := Go.Lib.hid hG; clear hG
  go_loopw [4] (fun i wr => ∃ k : Nat, k ≤ 64 ∧ i = .int .i64 k ∧ Below G w1 wr ∧ wr.heap[G]? = some (.cells ((sevL k).map NB.u8v).toArray 5 (0, 0))) (fun i _ => 64 - (intOf i).toNat)
  case atStart => exact ⟨0, by omega, rfl, hB2, hr2⟩
  case round =>
    clear hB2 hr2
    obtain ⟨k, hk, rfl, hB, hr⟩ := hrel
    by_cases hlt : k < 64
    · have hlen : ((sevL k).map NB.u8v).toArray.size = 64 := by simpa using sevL_len k hk
      have h1' : (k : Int) < 64 := by omega
      have hfr : wr.frozen? ⟨G, k, none⟩ = false := frozen_of_row _ _ _ _ _ hr
      have hcl : wr.cell? ⟨G, k, none⟩ = some (((sevL k).map NB.u8v).toArray[k]'(by omega)) := by
        rw [cell_of_row _ _ _ _ _ _ hr]; exact Array.getElem?_eq_getElem _
      generalize (((sevL k).map NB.u8v).toArray[k]'(by omega)) = old at hcl
      have HR := Go.Lib.hid hr; clear hr
      have hlen' := Go.Lib.hid hlen; clear hlen
      go_wp2_with (fail)
      go_roundw
      case rel => exact ⟨k + 1, by omega, by go_num, hB.setCell (Nat.le_refl _) _, by
        rw [heap_setCell_same _ _ _ _ _ _ HR.out, ← sevL_succ k hlt]
        exact congrArg (fun x => some (Obj.cells x 5 (0, 0))) (set_u8v (sevL k) k 7)⟩
      case measure => simp [intOf]; omega
    · obtain rfl : k = 64 := by omega
      have hd2 : IsD wr w.heap.size p bl (.slice none 0 0) (Dk.fresh 2) := hd1.below (by rw [HG0.out]; exact hB)
      have hrd := NB.rdB_row hr (sevL_len 64 (Nat.le_refl _)) (by unfold maxLen; omega)
      have hGs : w.heap.size ≤ G := by rw [← HG0.out]; exact hb1.size
      have hnf : ∀ k o, (some ⟨G, 0, none⟩ : Option Addr) = some ⟨k, o, none⟩ → sevL 64 ≠ [] → ¬ footD p bl (.slice none 0 0) k := by
        intro k o e _ hk
        cases e
        have := (hd1.foot_lt _ hk).2
        have := HG0.out
        omega
      have k1 : (1 : Nat) ≤ maxLen := by unfold maxLen; omega
      have hw0 : (Dk.fresh 2).waits.length ≤ 1000000 := by simp [Dk.fresh]
      have hB1 : Below w.heap.size w wr := hb1.trans ((show Below w1.heap.size w1 wr by rw [HG0.out]; exact hB).mono hb1.size)
      have hr2z := aw_r2
      have hr1z := aw_r1.1
      go_wp2_with (first
        | (go_at_call 12; refine (write_any _ _ _ _ _ _ _ _ _ _ _ hd2 hrd hnf hw0 hB1.size).mono ?_; rw [aw_w]; rintro e w3 ⟨rfl, vW3, hd3, hk3, hv3⟩)
        | (go_at_call 15; refine (crash_any _ _ _ _ _ _ _ _ _ [5] (hd3.below ((Below.refl _ w3).alloc (Nat.le_refl _) _)) (NB.rdB_lit [5] rfl rfl k1 rfl) (fun k o e hn => notFoot hd3 rfl (Nat.le_refl _) k o e hn) aw_ww).mono ?_; rintro e w4 ⟨rfl, vW4, hd4, hk4, hv4⟩)
        | (go_at_call 14; refine (read_any _ _ _ _ _ _ _ hd4 (by decide +kernel)).mono ?_; rw [show awD1.crash [5] = awD2 from rfl] ; rintro e w5 ⟨a5, c5, rfl, ho5, hb5⟩; obtain ⟨b6, o6, q4, q5, rfl⟩ := aw_cells ho5)
        | (go_at_call 16; refine (waits_any _ _ _ _ _ _ (hd4.below hb5)).mono ?_; rw [show (awD1.crash [5]).waits.length = 0 from aw_r1.2.2.2]; rintro e w6 ⟨rfl, e2⟩; subst w6))
      go_ret
      refine ⟨rfl, ?_⟩
      have hk5 : Kp (footD p bl (.slice none 0 0)) wr w4 := hk3.trans (hk4.alloc_left) (fun k hk => by
        rcases hk with h | h | h
        · exact .inl (.inl h)
        · exact .inl (.inr (.inl h))
        · rcases hv3 k h with h | h
          · cases h
          · exact .inr h)
      have hB5 : Below w.heap.size w w4 := hB1.trans (hk5.belowB hB1.size (fun k hk => (hd2.foot_lt k hk).1))
      exact hB5.trans (hb5.mono hB5.size)
end Go.Proofs.Ytihcppclfclkhaa
