/- A store into a row of the call's own. No program in sight. -/
import Derived.Test.YtnkmlopgfgdajaaOpen
import Derived.Laws.BitsAllLaws
namespace Go.NB
open Go Go.RowKit
theorem own_setB {w : World} {base : Nat} {e : TypeId} {v : Value} {n : Nat} {xs : List Value} (h : w.ownsRow base e 1 v n xs) (k : Nat) (hk : k < n) (u : Value) :
    ∃ g cap, v = .slice (some ⟨g, 0, none⟩) n cap ∧ base ≤ g ∧ g < w.heap.size ∧ w.cell? ⟨g, k, none⟩ = xs[k]? ∧ w.frozen? ⟨g, k, none⟩ = false ∧ n ≤ cap ∧ cap ≤ maxLen ∧ (w.setCell ⟨g, k, none⟩ u).ownsRow base e 1 v n (xs.set k u) := by
  obtain ⟨h1, h2⟩ := h
  rcases h2 with ⟨_, rfl⟩ | ⟨g, cap, cur, rfl, hb, hg, hle, hm, hs, ht⟩
  · omega
  · have hks : k < cur.size := by omega
    refine ⟨g, cap, rfl, hb, (Array.getElem?_eq_some_iff.1 hg).1, ?_, frozen_of_row _ _ _ _ _ hg, hle, hm, by simpa using h1, .inr ⟨g, cap, _, rfl, hb, heap_setCell_same w g k _ e u hg, hle, hm, by simpa using hs, ?_⟩⟩
    · rw [cell_of_row _ _ _ _ _ _ hg, ← ht, List.getElem?_take, if_pos (by omega)]
      simp
    · rw [Array.toList_setIfInBounds, List.take_set, ht]
theorem xor_u8 (a b : UInt8) : bits .xor .u8 (a.toNat : Int) (b.toNat : Int) = ((a ^^^ b).toNat : Int) := by
  rw [u8_xor_nat _ _ a.toNat_lt b.toNat_lt, UInt8.toNat_xor]
theorem xor_self_iff (a b : UInt8) : a ^^^ b = a ↔ b = 0 := by
  constructor
  · intro h
    have : a ^^^ (a ^^^ b) = a ^^^ a := by rw [h]
    simpa [← UInt8.xor_assoc] using this
  · rintro rfl; simp
end Go.NB
