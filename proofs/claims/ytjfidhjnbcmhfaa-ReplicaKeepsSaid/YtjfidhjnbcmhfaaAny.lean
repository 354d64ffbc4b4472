/- Regions that draw their order and hold calls and allocations that make new memory: an operation that only reads may be taken as soon as it is ready. No program in sight. -/
import Derived.Test.YtjfidhjnbcmhfaaBase
import Derived.Deep.Quiet
namespace Go.NB
open Go Go.RowKit

section
variable {P : Program} {ops : Array Oper} {md : Region.Mode}

/-- What an operation that makes new memory (or none) leaves. -/
def movesUpon (P : Program) (w : World) (next : Value → World → Prop) : Result Next → Prop
  | .ok (.value v) w' => Below w.heap.size w w' ∧ next v w'
  | .ok .skip w' => Below w.heap.size w w' ∧ next undef w'
  | .ok (.enter f args) w' => w' = w ∧ Calls P f args w (fun e w'' => ∃ v, e = .returned v ∧ Below w.heap.size w w'' ∧ next v w'')
  | _ => False
@[go_sem] theorem movesUpon_value (w w' : World) (next : Value → World → Prop) (v : Value) : movesUpon P w next (.ok (.value v) w') = (Below w.heap.size w w' ∧ next v w') := rfl
@[go_sem] theorem movesUpon_skip (w w' : World) (next : Value → World → Prop) : movesUpon P w next (.ok .skip w') = (Below w.heap.size w w' ∧ next undef w') := rfl
@[go_sem] theorem movesUpon_enter (w : World) (next : Value → World → Prop) (f : FuncId) (args : Array Value) : movesUpon P w next (.ok (.enter f args) w) = Calls P f args w (fun e w'' => ∃ v, e = .returned v ∧ Below w.heap.size w w'' ∧ next v w'') := by
  simp [movesUpon]

def moves (P : Program) (o : Oper) (a : Act) (w : World) (next : Value → World → Prop) : Prop := movesUpon P w next ((execOp a.eval o).run P w)

/-- Operation number 'i' comes up. -/
def movesOp (P : Program) (ops : Array Oper) (i : Nat) (K : Act → World → Prop) (a : Act) (w : World) : Prop :=
  match ops[i]? with
  | none => K a w
  | some o => if Region.wanted o (yielded ops a.tmps) then moves P o a w (fun v w' => K (a.put o.dst v) w') else K (a.put o.dst undef) w

/-- Whatever order is picked from here on. -/
def anyM (P : Program) (md : Region.Mode) (ops : Array Oper) (Q : Act → World → Prop) : Nat → Array Bool → Act → World → Prop
  | 0, listed, a, w => Region.ready md ops listed = [] ∧ Q a w
  | fuel + 1, listed, a, w =>
    (Region.ready md ops listed = [] → Q a w) ∧
    ∀ i ∈ Region.ready md ops listed, movesOp P ops i (anyM P md ops Q fuel (listed.setIfInBounds i true)) a w

theorem moves_mono {o : Oper} {a : Act} {w : World} {n n' : Value → World → Prop} (h : ∀ v w', Below w.heap.size w w' → n v w' → n' v w') (hh : moves P o a w n) : moves P o a w n' := by
  unfold moves at *
  generalize (execOp a.eval o).run P w = r at *
  cases r with
  | ok x w' =>
    cases x <;> simp only [movesUpon] at hh ⊢
    case value u => exact ⟨hh.1, h _ _ hh.1 hh.2⟩
    case skip => exact ⟨hh.1, h _ _ hh.1 hh.2⟩
    case enter f args => exact ⟨hh.1, hh.2.mono fun e w'' ⟨v, he, hb, hn⟩ => ⟨v, he, hb, h _ _ hb hn⟩⟩
  | halt x w' => simp only [movesUpon] at hh

theorem wp_of_moves {o : Oper} {a : Act} {w : World} {K : Act → World → Prop} {Q : Exit → Act → World → Prop} (hh : moves P o a w (fun v w' => K (a.put o.dst v) w')) : o.wp P a w K Q := by
  unfold moves at hh
  unfold Oper.wp
  generalize (execOp a.eval o).run P w = r at *
  cases r with
  | ok x w' =>
    cases x <;> simp only [movesUpon] at hh <;> simp only [Oper.upon]
    case value u => exact hh.2
    case skip => exact hh.2
    case enter f args =>
      obtain ⟨e1, hc⟩ := hh
      rw [e1]
      exact hc.mono fun e w'' ⟨v, he, _, hn⟩ => by subst he; exact hn
  | halt x w' => simp only [movesUpon] at hh

theorem any_of_anyM {Q : Act → World → Prop} {Q' : Exit → Act → World → Prop} (hQ : ∀ a w, Q a w → Q' .normal a w) : ∀ (fuel : Nat) (listed : Array Bool) (a : Act) (w : World),
    anyM P md ops Q fuel listed a w → wpAny P md ops Q' fuel listed a w
  | 0, _, _, _, h => ⟨h.1, hQ _ _ h.2⟩
  | fuel + 1, listed, a, w, h => ⟨fun h0 => hQ _ _ (h.1 h0), fun i hi => by
      have := h.2 i hi
      unfold movesOp at this
      unfold wpOp
      split
      · rename_i ho; simp only [ho] at this; exact any_of_anyM hQ fuel _ _ _ this
      · rename_i o ho
        simp only [ho] at this
        split
        · rename_i hw
          simp only [hw, if_true] at this
          exact .inl (wp_of_moves (moves_mono (fun v w' _ hn => any_of_anyM hQ fuel _ _ _ hn) this))
        · rename_i hw
          simp only [hw] at this
          exact any_of_anyM hQ fuel _ _ _ this⟩

/-- The region from its orders. -/
theorem wp_region_m {id : Nat} {Q : Exit → Act → World → Prop} {a : Act} {w : World} (hm : P.follows .mixedOrders = true)
    (h : anyM P .any ops (fun a w => Q .normal a w) ops.size (Array.replicate ops.size false) a w.drew) : (Code.region id ops true).wp P Q a w :=
  wp_region_any hm (any_of_anyM (fun _ _ h => h) _ _ _ _ h)

/-- In every later world the operation yields 'v' and leaves the world as it is. -/
def readsTo (P : Program) (o : Oper) (a : Act) (w : World) (v : Value) : Prop :=
  ∀ w', Below w.heap.size w w' → (execOp a.eval o).run P w' = .ok (.value v) w'

def readsIn (P : Program) (ops : Array Oper) (o : Oper) (v : Value) (a : Act) (w : World) : Prop :=
  (Region.wanted o (yielded ops a.tmps) = true ∧ readsTo P o a w v) ∨ (Region.wanted o (yielded ops a.tmps) = false ∧ v = undef)

theorem readsIn.later {o : Oper} {v : Value} {a : Act} {w w' : World} (h : readsIn P ops o v a w) (hb : Below w.heap.size w w') : readsIn P ops o v a w' := by
  rcases h with ⟨h1, h2⟩ | h
  · exact .inl ⟨h1, fun w'' hb' => h2 w'' (hb.trans (hb'.mono hb.size))⟩
  · exact .inr h

theorem readsIn.of_same {o : Oper} {v : Value} {a a' : Act} {w : World} (hy : readsIn P ops o v a w) (he : execOp a'.eval o = execOp a.eval o)
    (hw : Region.wanted o (yielded ops a'.tmps) = Region.wanted o (yielded ops a.tmps)) : readsIn P ops o v a' w := by
  unfold readsIn readsTo at *
  rw [he, hw]
  exact hy

theorem readsIn.moves {i : Nat} {o : Oper} {v : Value} {a : Act} {w : World} (hi : ops[i]? = some o) (hy : readsIn P ops o v a w) {K : Act → World → Prop} (h : K (a.put o.dst v) w) : movesOp P ops i K a w := by
  unfold movesOp
  simp only [hi]
  rcases hy with ⟨hw, hv⟩ | ⟨hw, rfl⟩
  · simp only [hw, if_true]
    unfold NB.moves
    rw [hv w (Below.refl _ _)]
    exact ⟨Below.refl _ _, h⟩
  · simp only [hw, Bool.false_eq_true, if_false]; exact h

theorem movesOp_put {j : Nat} {oi oj : Oper} {v : Value} (hj : ops[j]? = some oj) (hap : oi.apart ops oj = true)
    (hsi : ∀ cs b, oi.op ≠ .select cs b) (hsj : ∀ cs b, oj.op ≠ .select cs b) {K : Act → World → Prop} {a : Act} {w : World}
    (hy : readsIn P ops oi v a w) (h : movesOp P ops j K (a.put oi.dst v) w) :
    movesOp P ops j (fun a' w' => readsIn P ops oi v a' w' ∧ K (a'.put oi.dst v) w') a w := by
  obtain ⟨h1, h2, h3⟩ := Oper.apart_spec hap
  have keep : ∀ (a : Act) w, readsIn P ops oi v a w → ∀ u, readsIn P ops oi v (a.put oj.dst u) w := fun a w hy u =>
    hy.of_same (execOp_put oi hsi a oj.dst u h3) (wanted_put oi a oj.dst u h3)
  unfold movesOp at *
  simp only [hj] at *
  rw [wanted_put oj a oi.dst v h1] at h
  split
  · rename_i hw
    simp only [hw, if_true] at h
    unfold NB.moves at *
    rw [execOp_put oj hsj a oi.dst v h1] at h
    refine moves_mono (o := oj) (a := a) (fun u w' hb hn => ?_) h
    exact ⟨keep a w' (hy.later hb) u, by rw [← Act.put_comm a v u h2]; exact hn⟩
  · rename_i hw
    simp only [hw] at h
    exact ⟨keep a w hy _, by rw [← Act.put_comm a v undef h2]; exact h⟩

theorem movesOp_mono {i : Nat} {a : Act} {w : World} {K K' : Act → World → Prop} (h : ∀ a w, K a w → K' a w) (hh : movesOp P ops i K a w) : movesOp P ops i K' a w := by
  unfold movesOp at *
  split
  · exact h _ _ (by simpa [*] using hh)
  · rename_i o ho
    simp only [ho] at hh
    split
    · rename_i hw; simp only [hw, if_true] at hh; exact moves_mono (fun v w' _ => h _ _) hh
    · rename_i hw; simp only [hw] at hh; exact h _ _ hh

/-- An operation that only reads may be taken as soon as it is ready. -/
theorem anyM_first {Q : Act → World → Prop} {i : Nat} {oi : Oper} {v : Value} (hi : ops[i]? = some oi) (hsel : ∀ (j : Nat) (o : Oper) cs b, ops[j]? = some o → o.op ≠ .select cs b) :
    ∀ (fuel : Nat) (listed : Array Bool) (a : Act) (w : World),
      (∀ j oj, ops[j]? = some oj → j ≠ i → listed.getD j true = false → (∀ e ∈ oj.after, Region.binds md e = true → e.on ≠ i) → oi.apart ops oj = true) →
      i ∈ Region.ready md ops listed → readsIn P ops oi v a w →
      anyM P md ops Q fuel (listed.setIfInBounds i true) (a.put oi.dst v) w → anyM P md ops Q (fuel + 1) listed a w := by
  intro fuel
  induction fuel with
  | zero =>
    intro listed a w _ hr hy H
    refine ⟨fun h => (by rw [h] at hr; cases hr), fun j hj => ?_⟩
    by_cases hji : j = i
    · subst hji; exact hy.moves hi H
    · have := ready_mono hj hji
      rw [H.1] at this
      cases this
  | succ fuel ih =>
    intro listed a w hfree hr hy H
    refine ⟨fun h => (by rw [h] at hr; cases hr), fun j hj => ?_⟩
    by_cases hji : j = i
    · subst hji; exact hy.moves hi H
    · have h1 := H.2 j (ready_mono hj hji)
      obtain ⟨hjun, oj, hoj, hall⟩ := mem_ready.1 hj
      have hnot : ∀ e ∈ oj.after, Region.binds md e = true → e.on ≠ i := fun e he hb heq => by
        have h1 := hall e he hb
        have h0 := (mem_ready.1 hr).1
        rw [heq] at h1
        rcases Nat.lt_or_ge i listed.size with h' | h'
        · simp [h'] at h0 h1; rw [h0] at h1; cases h1
        · simp [Array.getElem?_eq_none h'] at h1
      have h2 := movesOp_put hoj (hfree j oj hoj hji hjun hnot) (fun cs b => hsel i oi cs b hi) (fun cs b => hsel j oj cs b hoj) hy h1
      have hfree' : ∀ k ok, ops[k]? = some ok → k ≠ i → (listed.setIfInBounds j true).getD k true = false →
          (∀ e ∈ ok.after, Region.binds md e = true → e.on ≠ i) → oi.apart ops ok = true := fun k ok hk hki hun hno => by
        refine hfree k ok hk hki ?_ hno
        by_cases hjk : j = k
        · subst hjk; exact hjun
        · rw [getD_set_ne true hjk] at hun; exact hun
      refine movesOp_mono (fun a' w' h3 => ih (listed.setIfInBounds j true) a' w' hfree' (ready_mono hr (Ne.symm hji)) h3.1 ?_) h2
      rw [Array.setIfInBounds_comm _ _ hji]
      exact h3.2

/-- May operation 'i' be taken now? -/
def takeB (ops : Array Oper) (listed : Array Bool) (i : Nat) : Bool :=
  Region.noSelect ops && Region.free .any ops listed i && (Region.ready .any ops listed).contains i

/-- What is left when an operation that needs nothing of memory is taken. -/
theorem any_p {Q : Act → World → Prop} (i : Nat) {o : Oper} {fuel : Nat} {listed : Array Bool} {a : Act} {w : World} (hi : ops[i]? = some o) (hB : takeB ops listed i = true)
    (h : ∀ K : Act → Prop, (∀ a, anyM P .any ops Q fuel (listed.setIfInBounds i true) a w → K a) →
      if Region.wanted o (yielded ops a.tmps) then ∃ v, (∀ w', (execOp a.eval o).run P w' = .ok (.value v) w') ∧ K (a.put o.dst v) else K (a.put o.dst undef)) :
    anyM P .any ops Q (fuel + 1) listed a w := by
  simp only [takeB, Bool.and_eq_true] at hB
  have h' := h _ (fun _ h => h)
  split at h'
  · rename_i hw
    obtain ⟨v, hv, hK⟩ := h'
    exact anyM_first hi (Region.noSelect_spec hB.1.1) fuel listed a w (Region.free_spec hi hB.1.2) (by simpa using hB.2) (.inl ⟨hw, fun w' _ => hv w'⟩) hK
  · rename_i hw
    exact anyM_first hi (Region.noSelect_spec hB.1.1) fuel listed a w (Region.free_spec hi hB.1.2) (by simpa using hB.2) (.inr ⟨by simpa using hw, rfl⟩) h'

/-- One that reads memory. -/
theorem any_r {Q : Act → World → Prop} (i : Nat) {o : Oper} {fuel : Nat} {listed : Array Bool} {a : Act} {w : World} (hi : ops[i]? = some o) (hB : takeB ops listed i = true) (hw : Region.wanted o (yielded ops a.tmps) = true) (v : Value)
    (hr : ∀ w', Below w.heap.size w w' → (execOp a.eval o).run P w' = .ok (.value v) w')
    (h : ∀ K : Act → Prop, (∀ a, anyM P .any ops Q fuel (listed.setIfInBounds i true) a w → K a) → K (a.put o.dst v)) : anyM P .any ops Q (fuel + 1) listed a w := by
  simp only [takeB, Bool.and_eq_true] at hB
  exact anyM_first hi (Region.noSelect_spec hB.1.1) fuel listed a w (Region.free_spec hi hB.1.2) (by simpa using hB.2) (.inl ⟨hw, hr⟩) (h _ (fun _ h => h))

/-- 'string(b)' in a region. -/
theorem run_op_conv_str {src dst e : TypeId} (hs : P.underlying src = some (.slice e)) (he : P.underlying e = some (.int .u8)) (hd : P.underlying dst = some .string)
    {o : Oper} {x : Operand} (ho : o.op = .convert src dst x) {a : Act} {ad : Option Addr} {n c : Nat} {bs : List UInt8} (hx : a.eval x = .slice ad n c) {w : World} (h : RdB w ad n c bs) :
    (execOp a.eval o).run P w = .ok (.value (.string ⟨bs.toArray⟩)) w := by
  unfold execOp
  simp only [ho, hx, Sem.run_bind, Sem.run_pure, Result.andThen_ok, run_conv_str hs he hd h]

/-- The only one that may come up, which may make new memory. -/
theorem any_e {Q : Act → World → Prop} (i : Nat) {o : Oper} {fuel : Nat} {listed : Array Bool} {a : Act} {w : World} (hi : ops[i]? = some o) (hB : (Region.ready .any ops listed == [i]) = true)
    (h : ∀ K : Act → World → Prop, (∀ a w, anyM P .any ops Q fuel (listed.setIfInBounds i true) a w → K a w) →
      if Region.wanted o (yielded ops a.tmps) then moves P o a w (fun v w' => K (a.put o.dst v) w') else K (a.put o.dst undef) w) :
    anyM P .any ops Q (fuel + 1) listed a w := by
  have hr : Region.ready .any ops listed = [i] := by simpa using hB
  refine ⟨fun h0 => (by rw [hr] at h0; cases h0), fun j hj => ?_⟩
  rw [hr] at hj
  obtain rfl : j = i := by simpa using hj
  unfold movesOp
  simp only [hi]
  exact h _ (fun _ _ h => h)

/-- Two that may come up. -/
theorem any_e2 {Q : Act → World → Prop} (i j : Nat) {o o' : Oper} {fuel : Nat} {listed : Array Bool} {a : Act} {w : World} (hi : ops[i]? = some o) (hj : ops[j]? = some o') (hB : (Region.ready .any ops listed == [i, j]) = true)
    (h : ∀ K : Act → World → Prop, (∀ a w, anyM P .any ops Q fuel (listed.setIfInBounds i true) a w → K a w) →
      if Region.wanted o (yielded ops a.tmps) then moves P o a w (fun v w' => K (a.put o.dst v) w') else K (a.put o.dst undef) w)
    (h' : ∀ K : Act → World → Prop, (∀ a w, anyM P .any ops Q fuel (listed.setIfInBounds j true) a w → K a w) →
      if Region.wanted o' (yielded ops a.tmps) then moves P o' a w (fun v w' => K (a.put o'.dst v) w') else K (a.put o'.dst undef) w) :
    anyM P .any ops Q (fuel + 1) listed a w := by
  have hr : Region.ready .any ops listed = [i, j] := by simpa using hB
  refine ⟨fun h0 => (by rw [hr] at h0; cases h0), fun k hk => ?_⟩
  rw [hr] at hk
  have hk' : k = i ∨ k = j := by simpa using hk
  unfold movesOp
  rcases hk' with rfl | rfl
  · simp only [hi]
    exact h _ (fun _ _ h => h)
  · simp only [hj]
    exact h' _ (fun _ _ h => h)

theorem any_end {Q : Act → World → Prop} {listed : Array Bool} {a : Act} {w : World} (hB : (Region.ready .any ops listed == []) = true) (h : Q a w) : anyM P .any ops Q 0 listed a w :=
  ⟨by simpa using hB, h⟩
end
end Go.NB
