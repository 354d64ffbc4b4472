/- A map keyed by ints, whatever its elements: what it holds, as a function; its laws at the operations. No program in sight. -/
import Derived.Test.YtjfidhjnbcmhfaaKp
import Derived.Maps.OwnSet
namespace Go.NB
open Go Go.RowKit
open Go.Maps (Keyed)

/-- An element is read as itself. -/
def heldR (v : Value) : Option (DataW Value × List MemPlace) := some (.held v, [])
abbrev I64 (i : Int) : Prop := (Lit.int .i64 i).wf = true
structure KeyI (P : Program) (K E : TypeId) (z : Value) : Prop where
  hk : P.underlying K = some (.int .i64)
  hz : ∀ w, (zeroValue E).run P w = .ok z w

/-- Block 'b' is a map that holds just what f says. -/
def MapI (P : Program) (K : TypeId) (w : World) (b n : Nat) (f : Int → Option Value) : Prop :=
  ∃ D : DataW Value, w.ownsMap P K heldR b n D ∧ ∀ i, I64 i → Maps.has D (.int .i64 i) = (f i).isSome ∧ ∀ z, D.atKey (.int .i64 i) z = ((f i).map DataW.held).getD z

section
variable {P : Program} {K E : TypeId} {z : Value} {w w' : World} {b n : Nat} {f : Int → Option Value}
theorem KeyI.law (W : KeyI P K E z) : Keyed P K := Maps.int_keyed W.hk
theorem KeyI.of (W : KeyI P K E z) {i : Int} (hi : I64 i) : keyOf P K (.int .i64 i) = some (.int .i64 i) := by
  have h : keyOf P K (.int .i64 i) = mapKey P K (.int .i64 i) := by simp [keyOf, W.hk]
  rw [h]
  simp only [mapKey, W.hk]
  rw [if_pos ⟨trivial, hi⟩]
theorem MapI.keep (h : MapI P K w b n f) (hb : w'.heap[b]? = w.heap[b]?) : MapI P K w' b n f := by
  obtain ⟨D, ⟨es, clock, hh, r⟩, r2⟩ := h
  exact ⟨D, ⟨es, clock, hb.trans hh, r⟩, r2⟩
theorem MapI.lt (h : MapI P K w b n f) : b < w.heap.size := by
  obtain ⟨D, ⟨es, clock, hh, r⟩, r2⟩ := h
  exact (Array.getElem?_eq_some_iff.1 hh).1
theorem mapI_new (w : World) : MapI P K (w.alloc (.map #[] 0)) w.heap.size 0 (fun _ => none) :=
  ⟨.map [], World.ownsMap_made _ _ _ _, fun c _ => ⟨rfl, fun z => rfl⟩⟩

variable {ops : Array Oper} {rest : List Oper} {o : Oper} {a : Act} {Q : Exit → Act → World → Prop}
theorem look_i {t : TypeId} (W : KeyI P K E z) (ht : P.underlying t = some (.map K E)) (h : MapI P K w b n f) {i : Int} (hi : I64 i) :
    (Instr.lookup t (.map (some b)) (.int .i64 i) true).run P w = .ok (.tuple #[(f i).getD z, .bool (f i).isSome]) w := by
  obtain ⟨D, hD, hr⟩ := h
  obtain ⟨v, ps, hrun, hv⟩ := hD.look_ok W.law ht (W.hz w) (zd := .held z) (zp := []) rfl (W.of hi)
  obtain ⟨h1, h2⟩ := hr i hi
  rw [h1] at hrun
  rw [hrun]
  have h3 : DataW.held v = D.atKey (.int .i64 i) (.held z) := congrArg Prod.fst (Option.some.inj hv)
  rw [h2] at h3
  cases hf : f i with
  | none => rw [hf] at h3; injection h3 with h3; rw [h3]; rfl
  | some u => rw [hf] at h3; injection h3 with h3; rw [h3]; rfl
theorem look1_i {t : TypeId} (W : KeyI P K E z) (ht : P.underlying t = some (.map K E)) (h : MapI P K w b n f) {i : Int} (hi : I64 i) :
    (Instr.lookup t (.map (some b)) (.int .i64 i) false).run P w = .ok ((f i).getD z) w := by
  obtain ⟨D, ⟨es, clock, hb, F, _, rfl⟩, hr⟩ := h
  obtain ⟨h1, h2⟩ := hr i hi
  rcases Maps.fit_look false W.law ht (W.hz w) hb F (W.of hi) with ⟨hrun, _, hat⟩ | ⟨e0, y, _, _, hrun, hRv, hat, _⟩
  · rw [hrun]
    cases hf : f i with
    | none => rfl
    | some u =>
      have h3 := hat (.held z)
      rw [Maps.has_false_of_atKey hat, hf] at h1
      cases h1
  · rw [hrun]
    have h3 := hat (.held z)
    rw [h2 (.held z)] at h3
    have h4 : DataW.held e0.val = y.1 := congrArg Prod.fst (Option.some.inj hRv)
    rw [Maps.has_true_of_atKey hat] at h1
    cases hf : f i with
    | none => rw [hf] at h1; cases h1
    | some u =>
      rw [hf, ← h4] at h3
      injection h3 with h3
      simp [h3]
theorem run_op_look_i {t : TypeId} (W : KeyI P K E z) (ht : P.underlying t = some (.map K E)) {m x : Operand} (ho : o.op = .lookup t m x true) (hm : a.eval m = .map (some b)) {i : Int} (hx : a.eval x = .int .i64 i) (h : MapI P K w b n f) (hi : I64 i) :
    (execOp a.eval o).run P w = .ok (.value (.tuple #[(f i).getD z, .bool (f i).isSome])) w := by
  unfold execOp
  simp only [ho, hm, hx, Sem.run_bind, Sem.run_pure, look_i W ht h hi, Result.andThen_ok]
theorem run_op_look1_i {t : TypeId} (W : KeyI P K E z) (ht : P.underlying t = some (.map K E)) {m x : Operand} (ho : o.op = .lookup t m x false) (hm : a.eval m = .map (some b)) {i : Int} (hx : a.eval x = .int .i64 i) (h : MapI P K w b n f) (hi : I64 i) :
    (execOp a.eval o).run P w = .ok (.value ((f i).getD z)) w := by
  unfold execOp
  simp only [ho, hm, hx, Sem.run_bind, Sem.run_pure, look1_i W ht h hi, Result.andThen_ok]
theorem wpList_look_i {t : TypeId} (W : KeyI P K E z) (hgd : Region.wanted o (yielded ops a.tmps) = true) (ht : P.underlying t = some (.map K E)) (m x : Operand) (ho : o.op = .lookup t m x true) (hm : a.eval m = .map (some b)) {i : Int} (hx : a.eval x = .int .i64 i) (h : MapI P K w b n f) (hi : I64 i)
    (hK : wpList P ops Q rest (a.put o.dst (.tuple #[(f i).getD z, .bool (f i).isSome])) w) : wpList P ops Q (o :: rest) a w :=
  wpList_wanted hgd fun K' hK' => by
    unfold Oper.wp
    rw [run_op_look_i W ht ho hm hx h hi]
    exact hK' _ _ hK
theorem wpList_look1_i {t : TypeId} (W : KeyI P K E z) (hgd : Region.wanted o (yielded ops a.tmps) = true) (ht : P.underlying t = some (.map K E)) (m x : Operand) (ho : o.op = .lookup t m x false) (hm : a.eval m = .map (some b)) {i : Int} (hx : a.eval x = .int .i64 i) (h : MapI P K w b n f) (hi : I64 i)
    (hK : wpList P ops Q rest (a.put o.dst ((f i).getD z)) w) : wpList P ops Q (o :: rest) a w :=
  wpList_wanted hgd fun K' hK' => by
    unfold Oper.wp
    rw [run_op_look1_i W ht ho hm hx h hi]
    exact hK' _ _ hK
/-- A store. -/
theorem wpList_put_i (W : KeyI P K E z) (hgd : Region.wanted o (yielded ops a.tmps) = true) (m x v : Operand) (t : TypeId) (hop : o.op = Op.mapUpdate t m x v) (ht : P.underlying t = some (.map K E)) (h : MapI P K w b n f)
    (hm : a.eval m = .map (some b)) {i : Int} (hx : a.eval x = .int .i64 i) {u : Value} (hv : a.eval v = u) (hi : I64 i) (hn : n < maxLen)
    (hK : ∀ w', MapI P K w' b (n + 1) (fun j => if j = i then some u else f j) → w.grownBy w' (some b) → w'.heap.size = w.heap.size → wpList P ops Q rest (a.put o.dst undef) w') : wpList P ops Q (o :: rest) a w := by
  refine wpList_wanted hgd fun K' hK' => ?_
  obtain ⟨D, hD, hr⟩ := h
  have hT := hD.tidy W.law
  have hkl : WideAt.IsKeyLit (.int .i64 i) := W.law.key (W.of hi)
  obtain ⟨w', hrun, r1, r2⟩ := hD.store W.law ht hn (W.of hi) (val := u) (d := .held u) (ps := []) rfl
  unfold Oper.wp
  simp [execOp, hop, hm, hx, hv, hrun, Result.andThen]
  refine hK' _ _ (hK w' ⟨_, r1, fun j hj => ?_⟩ r2.grown ?_)
  · by_cases he : j = i
    · subst he
      refine ⟨by rw [Maps.has_put_same hT.isMap hkl]; simp, fun z => by rw [Maps.atKey_put_same hT.isMap hkl]; simp⟩
    · have hne : Lit.int .i64 j ≠ .int .i64 i := fun e => he (by injection e)
      obtain ⟨q1, q2⟩ := hr j hj
      refine ⟨by rw [Maps.has_put_other hne, q1]; simp [he], fun z => by rw [Maps.atKey_put_other hne, q2 z]; simp [he]⟩
  · obtain ⟨es, clock, es', clock', _, rfl⟩ := r2
    simp [ChangeMaps.setBlock]
end
end Go.NB
