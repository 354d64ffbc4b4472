/- Two operations with effects that are ready together, in a region whose reads may come early. No program in sight. -/
import Derived.Test.YtmgkaoenjnnlmaaTail
namespace Go.NB
open Go Go.RowKit
section
variable {P : Program} {ops : Array Oper} {T : List Nat}
theorem t_e2 {Q : Act → World → Prop} (i j : Nat) {o o' : Oper} {fuel : Nat} {listed : Array Bool} {a : Act} {w : World} (hi : ops[i]? = some o) (hj : ops[j]? = some o') (hB : (Region.ready .any ops listed == [i, j]) = true) (hTi : T.contains i = false) (hTj : T.contains j = false)
    (h : ∀ K : Act → World → Prop, (∀ a w, anyT P ops T Q fuel (listed.setIfInBounds i true) a w → K a w) →
      if Region.wanted o (yielded ops a.tmps) then tmoves P o a w (fun v w' => K (a.put o.dst v) w') else K (a.put o.dst undef) w)
    (h' : ∀ K : Act → World → Prop, (∀ a w, anyT P ops T Q fuel (listed.setIfInBounds j true) a w → K a w) →
      if Region.wanted o' (yielded ops a.tmps) then tmoves P o' a w (fun v w' => K (a.put o'.dst v) w') else K (a.put o'.dst undef) w) :
    anyT P ops T Q (fuel + 1) listed a w := by
  have hr : Region.ready .any ops listed = [i, j] := by simpa using hB
  refine ⟨fun h0 => (by rw [hr] at h0; cases h0), fun k hk => ?_⟩
  rw [hr] at hk
  have hk' : k = i ∨ k = j := by simpa using hk
  unfold tOp
  rcases hk' with rfl | rfl
  · simp only [hi, hTi]
    exact h _ (fun _ _ h => h)
  · simp only [hj, hTj]
    exact h' _ (fun _ _ h => h)
end
end Go.NB
