/- A read and an operation with effects that are ready together. No program in sight. -/
import Derived.Test.YtadgokegjmigoaaDoorTail
namespace Go.NB
open Go Go.RowKit
section
variable {P : Program} {ops : Array Oper} {T : List Nat}
theorem t_rw {Q : Act → World → Prop} (i j : Nat) {o o' : Oper} {fuel : Nat} {listed : Array Bool} {a : Act} {w : World} (hi : ops[i]? = some o) (hj : ops[j]? = some o') (hB : (Region.ready .any ops listed == [i, j]) = true) (hTi : T.contains i = false) (hTj : T.contains j = true)
    (hwi : Region.wanted o (yielded ops a.tmps) = true) (hwj : Region.wanted o' (yielded ops a.tmps) = true) (v : Value) (hr : (execOp a.eval o).run P w = .ok (.value v) w)
    (h : anyT P ops T Q fuel (listed.setIfInBounds i true) (a.put o.dst v) w)
    (h' : ∀ Q' : Exit → Act → World → Prop, (∀ a w, anyT P ops T Q fuel (listed.setIfInBounds j true) a w → Q' .normal a w) → wpList P ops Q' [o'] a w) :
    anyT P ops T Q (fuel + 1) listed a w := by
  have hrr : Region.ready .any ops listed = [i, j] := by simpa using hB
  refine ⟨fun h0 => (by rw [hrr] at h0; cases h0), fun k hk => ?_⟩
  rw [hrr] at hk
  have hk' : k = i ∨ k = j := by simpa using hk
  rcases hk' with rfl | rfl
  · unfold tOp
    simp only [hi, hTi, hwi, if_true]
    unfold tmoves
    rw [hr]
    exact ⟨Below.refl _ _, h⟩
  · have h2 := h' (fun e a w => e = .normal ∧ anyT P ops T Q fuel (listed.setIfInBounds k true) a w) (fun a w hK => ⟨rfl, hK⟩)
    unfold tOp
    simp only [hj, hTj, if_true, hwj]
    unfold wpList at h2
    simp only [hwj, if_true] at h2
    rcases h2 with h2 | ⟨_, _, _, h2, _⟩
    · exact wp_exits (fun _ _ _ h => nomatch h.1) (fun ⟨_, _, h⟩ => nomatch h.1) (Oper.wp_mono (fun a w (h : wpList P ops _ [] a w) => h.2) h2)
    · cases h2
end
end Go.NB
