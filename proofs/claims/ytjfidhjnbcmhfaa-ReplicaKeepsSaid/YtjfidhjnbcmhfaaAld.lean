/- Bytes loaded as an array. No program in sight. -/
import Derived.Test.YtjfidhjnbcmhfaaAny
import Derived.Stop.BytesEq
namespace Go.NB
open Go Go.RowKit

/-- Bytes loaded as an array, in whatever later world. -/
theorem run_op_load_cells {P : Program} {o : Oper} {ty : TypeId} {x : Operand} (ho : o.op = .load ty x) {a : Act} {g off : Nat} (hx : a.eval x = .pointer (some ⟨g, off, none⟩)) {d : TypeDesc} (hu : P.underlying ty = some d)
    (hd : (match d with | .struct _ | .array _ _ => true | _ => false) = true) {w w' : World} (vs : List Value) (hc : ∀ j v, vs[j]? = some v → w.cell? ⟨g, off + j, none⟩ = some v) (hi : (P.info? ty).map (·.size) = some vs.length) (hb : Below w.heap.size w w') :
    (execOp a.eval o).run P w' = .ok (.value (.agg vs.toArray)) w' := by
  have hl : (loadCells ⟨g, off, none⟩ vs.length).run P w' = .ok vs.toArray w' :=
    run_loadCells_list (P := P) w' ⟨g, off, none⟩ _ (fun j v hv => by
      have h1 := hc j v hv
      rw [addr_add]
      exact (hb.cell (World.block_lt_of_cell? w _ h1)).trans h1)
  have hrun : (loadVar ty ⟨g, off, none⟩).run P w' = .ok (.agg vs.toArray) w' := by
    cases hq : P.info? ty with
    | none => simp [hq] at hi
    | some i =>
      have hs : i.size = vs.length := by simpa [hq] using hi
      have hagg : (isAgg ty).run P w' = .ok true w' := by
        unfold isAgg
        rw [Sem.run_bind, run_underlying hu w']
        cases d <;> simp_all
      simp [loadVar, Sem.run_bind, hagg, sizeOf, typeInfo, hq, hs, hl]
  unfold execOp
  simp only [ho, hx, Instr.loadAt, Instr.sureAddr, Sem.run_bind, Sem.run_pure, Result.andThen_ok, hrun]

theorem run_arrayAt {P : Program} {t e : TypeId} {n : Nat} (ht : P.underlying t = some (.array n e)) (a : Option Addr) (l c : Nat) (h : n ≤ l) (w : World) : (Instr.arrayAt t (.slice a l c)).run P w = .ok (.pointer a) w := by
  unfold Instr.arrayAt
  simp only [Sem.run_bind, run_underlying ht, Result.andThen_ok]
  simp [Nat.not_lt.2 h]
end Go.NB
