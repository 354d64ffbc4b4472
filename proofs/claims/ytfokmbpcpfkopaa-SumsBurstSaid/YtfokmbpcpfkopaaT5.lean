import Derived.Test.YtfokmbpcpfkopaaT4
namespace Go.Proofs.Ytfokmbpcpfkopaa
open Go.RowKit
open Go.NB.Crc
open Go.NB (Rd)

theorem aw1 : sumR [[49, 50, 51, 52], [53, 54, 55, 56, 57]] = 3808858755 := by decide +kernel
theorem aw2 : rightL (sealedL [120]) = true := by decide +kernel
theorem aw3 : rightL [97, 98, 99, 100] = false := by decide +kernel

set_option maxHeartbeats 400000 in
theorem awake_any (w : World) : Calls Try.prog 8 #[] w fun e w' => e = .returned (.bool true) ∧ Below w.heap.size w w' := by
  have h1 := aw1
  have h2 := aw2
  have h3 := aw3
  have k1 : (4 : Nat) ≤ maxLen := by unfold maxLen; omega
  have k2 : (5 : Nat) ≤ maxLen := by unfold maxLen; omega
  have k3 : (1 : Nat) ≤ maxLen := by unfold maxLen; omega
  have kc := NB.run_bytes_const (P := Try.prog) Try.underlying23 Try.underlying5
  go_enter Try.func8, Try.ntmps8
  go_wp2_with (first
    | (go_at_call 9; refine (of_any _ _ _ _ [[49, 50, 51, 52], [53, 54, 55, 56, 57]] ?_).mono ?_; exact NB.rdBB_two (Rd.alloc (NB.rdB_lit [49, 50, 51, 52] rfl rfl k1 rfl) _) (NB.rdB_lit [53, 54, 55, 56, 57] rfl rfl k2 (by simp)) (by simp); rintro e w1 ⟨rfl, hb1⟩; have B1 : Below w.heap.size w w1 := ((((Below.refl _ _).alloc (Nat.le_refl _) _).alloc (by simp) _).alloc (by simp; omega) _).trans (hb1.mono (by simp; omega)))
    | (go_at_call 11; refine (sealed_any _ _ _ _ [120] ?_ (by omega)).mono ?_; exact NB.rdB_lit [120] rfl rfl k3 rfl; rintro e w2 ⟨a2, c2, rfl, ho2, hb2⟩; obtain ⟨a3, c3, e3, hr3, hf3, _⟩ := NB.rd_of_own ho2; cases e3; have B2 : Below w.heap.size w w2 := (B1.alloc B1.size _).trans (hb2.mono (by have := B1.size; simp; omega))))
  refine (right_any _ _ _ _ _ hr3 (by decide)).mono ?_
  rintro e w3 ⟨rfl, hb3⟩
  have B3 : Below w.heap.size w w3 := B2.trans (hb3.mono B2.size)
  go_wp2_with (first
    | (go_at_call 13; refine (right_any _ _ _ _ [97, 98, 99, 100] ?_ (by omega)).mono ?_; exact NB.rdB_lit [97, 98, 99, 100] rfl rfl k1 rfl; rintro e w4 ⟨rfl, hb4⟩; have B4 : Below w.heap.size w w4 := (B3.alloc B3.size _).trans (hb4.mono (by have := B3.size; simp; omega))))
  go_ret
  exact ⟨rfl, B4⟩
end Go.Proofs.Ytfokmbpcpfkopaa
