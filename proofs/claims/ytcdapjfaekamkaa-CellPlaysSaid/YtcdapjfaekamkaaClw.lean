/- The cell's statements: 'awake', walked. -/
import Derived.Test.YtcdapjfaekamkaaCelq
namespace Go.Proofs.Ytcdapjfaekamkaa
open Go.RowKit
open Go.NB (Rd Dk Kp Stp Off Dis val Ce footC)

theorem awake_block : ∀ i, i < 10 → (laidL 1 [97, 98]).getD i 0 = [0, 0, 0, 0, 0, 0, 0, 1, 2, 97].getD i 0 := by
  obtain ⟨r, hr⟩ := laidL_form 1 [97, 98]
  rw [hr]
  intro i hi
  have e : stamp8 1 = [0, 0, 0, 0, 0, 0, 0, 1] := by decide
  rw [e]
  have : i = 0 ∨ i = 1 ∨ i = 2 ∨ i = 3 ∨ i = 4 ∨ i = 5 ∨ i = 6 ∨ i = 7 ∨ i = 8 ∨ i = 9 := by omega
  rcases this with h | h | h | h | h | h | h | h | h | h <;> subst h <;> rfl

theorem off_new {F : Nat → Prop} {w : World} {t : TypeId} {cs : Array Value} {bs : List UInt8} {n g : Nat} {fr : Nat × Nat} (hF : ∀ k, F k → k < w.heap.size) (h : cs.toList = bs.map NB.u8v) (hn : bs.length = n) (hm : n ≤ maxLen) (hg : g = w.heap.size) :
    Off F (w.alloc (.cells cs t fr)) (some ⟨g, 0, none⟩) n n bs :=
  ⟨NB.rdB_lit bs h hn hm hg, fun k o e _ hf => by cases e; have := hF _ hf; omega⟩
theorem aw_cells {w : World} {a : Option Addr} {n c : Nat} (h : NB.RdB w a n c (laidL 1 [97, 98])) (hn : n = 64) :
    ∃ b o, w.cell? ⟨b, o + 7, none⟩ = some (.int .u8 1) ∧ w.cell? ⟨b, o + 8, none⟩ = some (.int .u8 2) ∧ w.cell? ⟨b, o + 9, none⟩ = some (.int .u8 97) ∧ a = some ⟨b, o, none⟩ := by
  obtain ⟨b, o, e, hc⟩ := NB.RdB.at h (by omega)
  have c7 := hc 7 (by omega)
  have c8 := hc 8 (by omega)
  have c9 := hc 9 (by omega)
  rw [awake_block 7 (by omega)] at c7
  rw [awake_block 8 (by omega)] at c8
  rw [awake_block 9 (by omega)] at c9
  exact ⟨b, o, c7, c8, c9, e⟩

set_option maxRecDepth 100000 in
set_option maxHeartbeats 2000000 in
theorem awake_any (w : World) : Calls Try.prog 8 #[] w fun e w' => e = .returned (.bool true) ∧ Below w.heap.size w w' := by
  have hs0 := sits_fresh 1 3 (by omega)
  have hs1 := sits_next hs0 [97, 98] (by simp) (by simp [zeroC])
  have hlen := hs1.len
  have hrd : (nextD (zeroC 1) (Dk.fresh 3) [97, 98]).read (1 : Int) = (laidL 1 [97, 98], 0) := by
    have h := calm_read hs1.calm 1 (by omega)
    refine h.trans ?_
    show (((Dk.fresh 3).l.set 1 (laidL 1 [97, 98])).getD 1 [], (0 : Int)) = _
    rw [getD_set_self _ _ (by decide)]
  have hop : openL 1 (nextD (zeroC 1) (Dk.fresh 3) [97, 98]).l = nextC (zeroC 1) [97, 98] := hs1.op.symm
  have hwt : (nextD (zeroC 1) (Dk.fresh 3) [97, 98]).waits = [] := hs1.calm.waits
  have hcalm1 := hs1.calm
  have hop0 : openL 1 (Dk.fresh 3).l = zeroC 1 := hs0.op.symm
  have HS0 := Go.Lib.hid hs0
  have kc := fun (w : World) (C : Array Value) (n c : Nat) => Lib.run_convert_bytes_const (P := Try.prog) w 23 5 C n c Try.underlying23 Try.underlying5
  have k2 : (2 : Nat) ≤ maxLen := by unfold maxLen; omega
  have hcb : nextC (zeroC 1) [97, 98] = ⟨1, 0, 1, 1, [97, 98], 0⟩ := rfl
  generalize hC1 : nextC (zeroC 1) [97, 98] = C1 at *
  generalize hD1 : nextD (zeroC 1) (Dk.fresh 3) [97, 98] = D1 at *
  have hlL := laidL_len 1 [97, 98] (by simp)
  have HR := Go.Lib.hid hrd
  have HO := Go.Lib.hid hop
  have HCB := Go.Lib.hid hcb
  have HO0 := Go.Lib.hid hop0
  clear hs0 hs1 hrd hop hcb hop0
  go_enter Try.func8, Try.ntmps8
  go_wp2_with (first
    | (go_at_call 9; refine (dnew_any w 3 (by omega) (by omega)).mono ?_; rintro e w1 ⟨p, G, rfl, hD, hb1⟩)
    | (go_at_call 10; refine (open_calm w1 _ p G _ 1 hD HS0.out.calm HS0.out.len).mono ?_; rw [HO0.out]; rintro e w2 ⟨q, F, rfl, hC, hD2, hFG, hq, hF, hb2⟩; have hFGl : ∀ k, F k ∨ G k → k < w2.heap.size := fun k hk => hk.elim (fun h => (hC.foot k h).2) (fun h => (hD2.foot k h).2))
    | (go_at_call 11; refine (set_calm _ _ q p F G 1 (zeroC 1) (Dk.fresh 3) _ _ _ [97, 98] (hC.below ((Below.refl _ _).alloc (Nat.le_refl _) _)) (hD2.below ((Below.refl _ _).alloc (Nat.le_refl _) _)) hFG (off_new (bs := [97, 98]) (n := 2) hFGl rfl rfl k2 rfl) (by omega) HS0.out (by omega) (by simp [zeroC])).mono ?_; rw [hC1, hD1]; rintro e w3 ⟨rfl, F3, G3, hC3, hD3, hFG3, hS3⟩)
    | (go_at_call 14; refine (dread_any _ _ _ _ _ _ hD3 (by rw [hwt]; exact Nat.zero_le _)).mono ?_; rw [HR.out]; rintro e w4 ⟨a4, k4, rfl, ho4, hb4⟩; obtain ⟨a9, k9, e9, hr4, _⟩ := NB.rd_of_own ho4; cases e9; rw [hlL] at hr4; have hD4 := hD3.below hb4; obtain ⟨b5, o5, q7, q8, q9, rfl⟩ := aw_cells hr4 rfl)
    | (go_at_call 10; refine (open_calm w4 _ p G3 D1 1 hD4 hcalm1 hlen).mono ?_; rw [HO.out]; rintro e w5 ⟨q5, F5, rfl, hC5, hD5, hFG5, hq5, hF5, hb5⟩; replace q7 := (Below.cell hb5 (World.block_lt_of_cell? _ _ q7)).trans q7; replace q8 := (Below.cell hb5 (World.block_lt_of_cell? _ _ q8)).trans q8; replace q9 := (Below.cell hb5 (World.block_lt_of_cell? _ _ q9)).trans q9)
    | (go_at_call 13; refine (get_any _ _ _ _ _ _ hC5 (by rw [HCB.out]; decide)).mono ?_; rw [HCB.out]; rintro e w6 ⟨a6, k6, rfl, ho6, hb6⟩; have hr6 := (Off.fresh (F := fun _ => False) ho6 (fun _ h => h.elim)).rd; have hC6 := hC5.below hb6)
    | (refine NB.wpList_conv_str rfl 23 9 (.tmp 70) rfl Try.underlying23 Try.underlying5 Try.underlying9 a6 2 k6 [97, 98] rfl hr6 ?_)
    | (go_at_call 12; refine (turn_any _ _ _ _ _ _ hC6).mono ?_; rw [HCB.out]; rintro e w' ⟨rfl, e2⟩; subst w'))
  go_ret
  refine ⟨rfl, ?_⟩
  have B2 := bel hb1 hb2 hb1.size
  have hFGb : ∀ k, F k ∨ G k → w.heap.size ≤ k := fun k hk => hk.elim (fun h => (hC.foot k h).1) (fun h => (hD2.foot k h).1)
  have B2a := B2.alloc B2.size (.cells #[.int .u8 97, .int .u8 98] 5 (2, 3))
  have B3 := bel B2a (hS3.low B2a.size hFGb) (Nat.le_refl _)
  have B4 := bel B3 hb4 B3.size
  have B5 := bel B4 hb5 B4.size
  exact bel B5 hb6 B5.size
end Go.Proofs.Ytcdapjfaekamkaa
