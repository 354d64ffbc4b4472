/- A read and an operation with effects that are ready together and that the order of which changes nothing: walked once. No program in sight. -/
import Derived.Test.YtadgokegjmigoaaDoorTail
namespace Go.NB
open Go Go.RowKit
section
variable {P : Program} {ops : Array Oper} {T : List Nat}
/-- The read 'i' and the store 'j' may come up in either order: the store is walked behind the read, and the read must be the same behind the store. -/
theorem t_rs {Q : Act → World → Prop} (i j : Nat) {o o' : Oper} {fuel : Nat} {listed : Array Bool} {a : Act} {w : World} (hi : ops[i]? = some o) (hj : ops[j]? = some o') (hB : (Region.ready .any ops listed == [i, j]) = true)
    (hBi : (Region.ready .any ops (listed.setIfInBounds i true) == [j]) = true) (hBj : (Region.ready .any ops (listed.setIfInBounds j true) == [i]) = true) (hT : (!T.contains i && T.contains j) = true) (hap : o.apart ops o' = true)
    (hsi : ∀ cs b, o.op ≠ .select cs b) (hsj : ∀ cs b, o'.op ≠ .select cs b)
    (hwi : Region.wanted o (yielded ops a.tmps) = true) (v : Value) (hwj : Region.wanted o' (yielded ops (a.put o.dst v).tmps) = true) (hr : (execOp a.eval o).run P w = .ok (.value v) w)
    (h : ∀ Q' : Exit → Act → World → Prop, (∀ a' w', (execOp a.eval o).run P w' = .ok (.value v) w' → anyT P ops T Q fuel ((listed.setIfInBounds i true).setIfInBounds j true) a' w' → Q' .normal a' w') → wpList P ops Q' [o'] (a.put o.dst v) w) :
    anyT P ops T Q (fuel + 2) listed a w := by
  have hrr : Region.ready .any ops listed = [i, j] := by simpa using hB
  have hri : Region.ready .any ops (listed.setIfInBounds i true) = [j] := by simpa using hBi
  have hrj : Region.ready .any ops (listed.setIfInBounds j true) = [i] := by simpa using hBj
  simp only [Bool.and_eq_true, Bool.not_eq_true'] at hT
  obtain ⟨hTi, hTj⟩ := hT
  have hne : i ≠ j := by
    rintro rfl
    rw [hTi] at hTj
    cases hTj
  obtain ⟨h1, h2, h3⟩ := Oper.apart_spec hap
  have h4 := h (fun e a' w' => e = .normal ∧ ((execOp a.eval o).run P w' = .ok (.value v) w' ∧ anyT P ops T Q fuel ((listed.setIfInBounds i true).setIfInBounds j true) a' w')) (fun a' w' hr' hK => ⟨rfl, hr', hK⟩)
  unfold wpList at h4
  simp only [hwj, if_true] at h4
  have h5 : o'.wp P (a.put o.dst v) w (fun a' w' => (execOp a.eval o).run P w' = .ok (.value v) w' ∧ anyT P ops T Q fuel ((listed.setIfInBounds i true).setIfInBounds j true) a' w') noExit := by
    rcases h4 with h4 | ⟨_, _, _, h4, _⟩
    · exact wp_exits (fun _ _ _ h => nomatch h.1) (fun ⟨_, _, h⟩ => nomatch h.1) (Oper.wp_mono (fun a w (h : wpList P ops _ [] a w) => h.2) h4)
    · cases h4
  have hwj2 : Region.wanted o' (yielded ops a.tmps) = true := by rw [← wanted_put o' a o.dst v h1]; exact hwj
  refine ⟨fun h0 => (by rw [hrr] at h0; cases h0), fun k hk => ?_⟩
  rw [hrr] at hk
  have hk' : k = i ∨ k = j := by simpa using hk
  rcases hk' with rfl | rfl
  · unfold tOp
    simp only [hi, hTi, hwi, if_true]
    unfold tmoves
    rw [hr]
    refine ⟨Below.refl _ _, fun h0 => (by rw [hri] at h0; cases h0), fun l hl => ?_⟩
    rw [hri] at hl
    obtain rfl : l = j := by simpa using hl
    unfold tOp
    simp only [hj, hTj, hwj, if_true]
    exact Oper.wp_mono (fun a' w' h => h.2) h5
  · unfold tOp
    simp only [hj, hTj, hwj2, if_true]
    have fin : ∀ (b : Act) (_ : b.eval = a.eval) (_ : b.tmps = a.tmps) u w', ((execOp a.eval o).run P w' = .ok (.value v) w' ∧ anyT P ops T Q fuel ((listed.setIfInBounds i true).setIfInBounds k true) ((b.put o.dst v).put o'.dst u) w') → anyT P ops T Q (fuel + 1) (listed.setIfInBounds k true) (b.put o'.dst u) w' := fun b hbe hbt u w' hn => by
      refine ⟨fun h0 => (by rw [hrj] at h0; cases h0), fun l hl => ?_⟩
      rw [hrj] at hl
      obtain rfl : l = i := by simpa using hl
      unfold tOp
      have hw2 : Region.wanted o (yielded ops (b.put o'.dst u).tmps) = true := by rw [wanted_put o b o'.dst u h3, hbt]; exact hwi
      simp only [hi, hTi, hw2, if_true]
      unfold tmoves
      rw [execOp_put o hsi b o'.dst u h3, hbe, hn.1]
      refine ⟨Below.refl _ _, ?_⟩
      show anyT P ops T Q fuel ((listed.setIfInBounds k true).setIfInBounds l true) ((b.put o'.dst u).put o.dst v) w'
      rw [← Act.put_comm b v u h2, ← Array.setIfInBounds_comm _ _ hne]
      exact hn.2
    unfold Oper.wp at h5 ⊢
    rw [execOp_put o' hsj a o.dst v h1] at h5
    generalize (execOp a.eval o').run P w = r at *
    cases r with
    | ok x w' =>
      cases x <;> simp only [Oper.upon] at h5 ⊢
      case value u => exact fin a rfl rfl u _ h5
      case skip => exact fin a rfl rfl undef _ h5
      case defer d =>
        have e1 : ({ a.put o.dst v with defers := d :: (a.put o.dst v).defers } : Act) = ({ a with defers := d :: a.defers } : Act).put o.dst v := by
          cases o.dst <;> rfl
        rw [e1] at h5
        exact fin _ (eval_defers a d) rfl undef _ h5
      case enter f args =>
        refine Calls.mono h5 (fun e w'' he => ?_)
        cases e <;> first | exact fin a rfl rfl _ _ he | exact he
      case row r args => exact Rows.mono h5 (fun u w'' he => fin a rfl rfl u w'' he)
    | halt x w' => cases x <;> simp only [Oper.upon] at h5 ⊢ <;> exact h5
end
end Go.NB
