/- What the condition on the listed variable gives: the table lies in its place. -/
import Derived.Test.YtadgokegjmigoaaDoorRows
import Derived.Test.YtadgokegjmigoaaDoorMga
import Derived.ProofKit
import Derived.LaidMore
import Derived.OpenShut
import Derived.Stop.Joined
namespace Go.Proofs.YtadgokegjmigoaaDoor
open Go.ChangeShapes Go.WideShapes Go.ChangeAt Go.WideElems Go.RowKit

def laidL : List (String × DataW Unit) := [("notcher/msg.fields", Rows.laid_notcher_msg_fields)]
theorem gFields : Tryd.prog.globalNamed "notcher/msg.fields" = some 0 := by kernel_rfl
theorem tFields : (Tryd.prog.globals[0]?).map (·.type) = some 86 := by kernel_rfl
theorem door_met (os : Os) (args : Array Value) : laidMetH Tryd.prog laidL ((World.doorLaid Tryd.prog 400 os).forCall (fun _ _ => 0) ⟨#[], args, []⟩).memory :=
  laidMetH_of_parts3 (fuel := 8) (laidMet_of_run' 8 (by kernel_rfl) (by kernel_rfl)) (by kernel_rfl) (by kernel_rfl)
theorem fld_at : ∀ k, k < 19 → (fldN.map fun x : Nat => (DataW.lit (H := Unit) (.int .u64 (x : Int))))[k]? = some (.lit (.int .u64 ((fldN.getD k 0 : Nat) : Int))) := by
  intro k hk
  have : fldN[k]? = some (fldN.getD k 0) := by
    rw [List.getElem?_eq_getElem (by show k < 19; exact hk)]
    simp [List.getD, List.getElem?_eq_getElem (show k < fldN.length from hk)]
  rw [List.getElem?_map, this]; rfl
theorem of_laid {W : World} (h : laidMetH Tryd.prog laidL W) : Tb W := by
  rw [MakeChecks.laidMetH_plain _ _ _ (by kernel_rfl)] at h
  obtain ⟨ps, ⟨g0, t0, cs0, f0, p0, q0, hg0, ht0, hv0, hd0, _, _⟩, _, _⟩ := h
  obtain rfl := Option.some.inj (gFields.symm.trans hg0)
  obtain rfl := Option.some.inj (tFields.symm.trans ht0)
  obtain ⟨xs, m1, rfl, hx1, hlen, hn3, hel⟩ := DataW.trod_array Tryd.underlying86 hd0
  have c67 : Tryd.prog.cellsOf 67 = 1 := by kernel_rfl
  have c86 : Tryd.prog.cellsOf 86 = 19 := by kernel_rfl
  intro k hk
  have hk2 := hel k hk
  have hsz : cs0.toList.length = 19 := by rw [hlen, c86]
  have hx : xs.map (·.1) = fldN.map fun x : Nat => (DataW.lit (H := Unit) (.int .u64 (x : Int))) := by
    have h1 := (Prod.mk.inj hx1).1
    exact (DataW.agg.inj (show DataW.agg (fldN.map fun x : Nat => (DataW.lit (H := Unit) (.int .u64 (x : Int)))) = DataW.agg (xs.map (·.1)) from h1)).symm
  have hxk := fld_at k hk
  rw [← hx, List.getElem?_map] at hxk
  rw [c67, Nat.mul_one, List.drop_eq_getElem_cons (by omega), List.take_succ_cons, List.take_zero] at hk2
  obtain ⟨x, hxs⟩ : ∃ x, xs[k]? = some x := ⟨xs[k]'(by omega), List.getElem?_eq_getElem (by omega)⟩
  rw [hxs] at hk2 hxk
  obtain ⟨n, e1, e2, _⟩ := DataW.trod_int Tryd.underlying67 hk2
  have hn : DataW.lit (H := Unit) (.int .u64 n) = .lit (.int .u64 ((fldN.getD k 0 : Nat) : Int)) := by
    have := Option.some.inj hxk
    rw [e2] at this
    exact this
  have hn2 : n = ((fldN.getD k 0 : Nat) : Int) := by
    have := DataW.lit.inj hn
    injection this
  rw [World.var?_cell gFields hv0 k, ← Array.getElem?_toList, List.getElem?_eq_getElem (by omega), List.cons.inj e1 |>.1, hn2]
end Go.Proofs.YtadgokegjmigoaaDoor
