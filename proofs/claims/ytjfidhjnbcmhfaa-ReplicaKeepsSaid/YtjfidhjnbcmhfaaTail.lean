/- Regions that draw their order: an operation that only reads may be taken as soon as it is ready; operations 'T' (an append, a store) may do to memory what they will. No program in sight. -/
import Derived.Test.YtjfidhjnbcmhfaaBase
import Derived.Deep.Quiet
import Derived.Great.FillDense
import Derived.Great.BuildSlice
import Derived.Laws.CopyOwn
namespace Go.NB
open Go Go.RowKit

section
variable {P : Program} {ops : Array Oper} {T : List Nat}

def noExit : Exit → Act → World → Prop := fun _ _ _ => False

/-- What an operation that makes new memory (or none) leaves. -/
def tUpon (P : Program) (w : World) (next : Value → World → Prop) : Result Next → Prop
  | .ok (.value v) w' => Below w.heap.size w w' ∧ next v w'
  | .ok .skip w' => Below w.heap.size w w' ∧ next undef w'
  | .ok (.enter f args) w' => w' = w ∧ Calls P f args w (fun e w'' => ∃ v, e = .returned v ∧ Below w.heap.size w w'' ∧ next v w'')
  | _ => False
@[go_sem] theorem tUpon_value (w w' : World) (next : Value → World → Prop) (v : Value) : tUpon P w next (.ok (.value v) w') = (Below w.heap.size w w' ∧ next v w') := rfl
@[go_sem] theorem tUpon_skip (w w' : World) (next : Value → World → Prop) : tUpon P w next (.ok .skip w') = (Below w.heap.size w w' ∧ next undef w') := rfl
@[go_sem] theorem tUpon_enter (w : World) (next : Value → World → Prop) (f : FuncId) (args : Array Value) : tUpon P w next (.ok (.enter f args) w) = Calls P f args w (fun e w'' => ∃ v, e = .returned v ∧ Below w.heap.size w w'' ∧ next v w'') := by
  simp [tUpon]

def tmoves (P : Program) (o : Oper) (a : Act) (w : World) (next : Value → World → Prop) : Prop := tUpon P w next ((execOp a.eval o).run P w)

/-- Operation number 'i' comes up. -/
def tOp (P : Program) (ops : Array Oper) (T : List Nat) (i : Nat) (K : Act → World → Prop) (a : Act) (w : World) : Prop :=
  match ops[i]? with
  | none => K a w
  | some o => if Region.wanted o (yielded ops a.tmps) then (if T.contains i then o.wp P a w K noExit else tmoves P o a w (fun v w' => K (a.put o.dst v) w')) else K (a.put o.dst undef) w

/-- Whatever order is picked from here on. -/
def anyT (P : Program) (ops : Array Oper) (T : List Nat) (Q : Act → World → Prop) : Nat → Array Bool → Act → World → Prop
  | 0, listed, a, w => Region.ready .any ops listed = [] ∧ Q a w
  | fuel + 1, listed, a, w =>
    (Region.ready .any ops listed = [] → Q a w) ∧
    ∀ i ∈ Region.ready .any ops listed, tOp P ops T i (anyT P ops T Q fuel (listed.setIfInBounds i true)) a w

theorem tmoves_mono {o : Oper} {a : Act} {w : World} {n n' : Value → World → Prop} (h : ∀ v w', Below w.heap.size w w' → n v w' → n' v w') (hh : tmoves P o a w n) : tmoves P o a w n' := by
  unfold tmoves at *
  generalize (execOp a.eval o).run P w = r at *
  cases r with
  | ok x w' =>
    cases x <;> simp only [tUpon] at hh ⊢
    case value u => exact ⟨hh.1, h _ _ hh.1 hh.2⟩
    case skip => exact ⟨hh.1, h _ _ hh.1 hh.2⟩
    case enter f args => exact ⟨hh.1, hh.2.mono fun e w'' ⟨v, he, hb, hn⟩ => ⟨v, he, hb, h _ _ hb hn⟩⟩
  | halt x w' => simp only [tUpon] at hh

theorem wp_of_tmoves {o : Oper} {a : Act} {w : World} {K : Act → World → Prop} {Q : Exit → Act → World → Prop} (hh : tmoves P o a w (fun v w' => K (a.put o.dst v) w')) : o.wp P a w K Q := by
  unfold tmoves at hh
  unfold Oper.wp
  generalize (execOp a.eval o).run P w = r at *
  cases r with
  | ok x w' =>
    cases x <;> simp only [tUpon] at hh <;> simp only [Oper.upon]
    case value u => exact hh.2
    case skip => exact hh.2
    case enter f args =>
      obtain ⟨e1, hc⟩ := hh
      rw [e1]
      exact hc.mono fun e w'' ⟨v, he, _, hn⟩ => by subst he; exact hn
  | halt x w' => simp only [tUpon] at hh

theorem wp_exits {o : Oper} {a : Act} {w : World} {K : Act → World → Prop} {Q Q' : Exit → Act → World → Prop} (hq : ∀ c a w, Q (.panic c) a w → Q' (.panic c) a w) (ho : LetsOut Q → LetsOut Q') (hh : o.wp P a w K Q) : o.wp P a w K Q' := by
  unfold Oper.wp at *
  generalize (execOp a.eval o).run P w = r at *
  cases r with
  | ok x w' =>
    cases x <;> simp only [Oper.upon] at hh ⊢ <;> first
      | exact hh
      | exact Calls.mono hh (fun e w'' he => by cases e <;> first | exact he | exact hq _ _ _ he | exact ho he)
  | halt x w' => cases x <;> simp only [Oper.upon] at hh ⊢ <;> first | exact hh | exact hq _ _ _ hh

theorem wp_noExit {o : Oper} {a : Act} {w : World} {K : Act → World → Prop} {Q : Exit → Act → World → Prop} (hh : o.wp P a w K noExit) : o.wp P a w K Q :=
  wp_exits (fun _ _ _ h => h.elim) (fun ⟨_, _, h⟩ => h.elim) hh

theorem any_of_anyT {Q : Act → World → Prop} {Q' : Exit → Act → World → Prop} (hQ : ∀ a w, Q a w → Q' .normal a w) : ∀ (fuel : Nat) (listed : Array Bool) (a : Act) (w : World),
    anyT P ops T Q fuel listed a w → wpAny P .any ops Q' fuel listed a w
  | 0, _, _, _, h => ⟨h.1, hQ _ _ h.2⟩
  | fuel + 1, listed, a, w, h => ⟨fun h0 => hQ _ _ (h.1 h0), fun i hi => by
      have := h.2 i hi
      unfold tOp at this
      unfold wpOp
      split
      · rename_i ho; simp only [ho] at this; exact any_of_anyT hQ fuel _ _ _ this
      · rename_i o ho
        simp only [ho] at this
        split
        · rename_i hw
          simp only [hw, if_true] at this
          split at this
          · exact .inl (wp_noExit (Oper.wp_mono (fun a w hn => any_of_anyT hQ fuel _ a w hn) this))
          · exact .inl (wp_of_tmoves (tmoves_mono (fun v w' _ hn => any_of_anyT hQ fuel _ _ _ hn) this))
        · rename_i hw
          simp only [hw] at this
          exact any_of_anyT hQ fuel _ _ _ this⟩

/-- The region from its orders. -/
theorem wp_region_t (T : List Nat) {id : Nat} {Q : Exit → Act → World → Prop} {a : Act} {w : World} (hm : P.follows .mixedOrders = true)
    (h : anyT P ops T (fun a w => Q .normal a w) ops.size (Array.replicate ops.size false) a w.drew) : (Code.region id ops true).wp P Q a w :=
  wp_region_any hm (any_of_anyT (fun _ _ h => h) _ _ _ _ h)

/-- In every later world ('p': in every world) the operation yields 'v' and leaves the world as it is. -/
def tReads (P : Program) (p : Bool) (o : Oper) (a : Act) (w : World) (v : Value) : Prop :=
  ∀ w', (p = true ∨ Below w.heap.size w w') → (execOp a.eval o).run P w' = .ok (.value v) w'

def tIn (P : Program) (ops : Array Oper) (p : Bool) (o : Oper) (v : Value) (a : Act) (w : World) : Prop :=
  (Region.wanted o (yielded ops a.tmps) = true ∧ tReads P p o a w v) ∨ (Region.wanted o (yielded ops a.tmps) = false ∧ v = undef)

theorem tIn.later {p : Bool} {o : Oper} {v : Value} {a : Act} {w w' : World} (h : tIn P ops p o v a w) (hb : p = true ∨ Below w.heap.size w w') : tIn P ops p o v a w' := by
  rcases h with ⟨h1, h2⟩ | h
  · refine .inl ⟨h1, fun w'' hb' => h2 w'' ?_⟩
    rcases hb with hb | hb
    · exact .inl hb
    · rcases hb' with hb' | hb'
      · exact .inl hb'
      · exact .inr (hb.trans (hb'.mono hb.size))
  · exact .inr h

theorem tIn.of_same {p : Bool} {o : Oper} {v : Value} {a a' : Act} {w : World} (hy : tIn P ops p o v a w) (he : execOp a'.eval o = execOp a.eval o)
    (hw : Region.wanted o (yielded ops a'.tmps) = Region.wanted o (yielded ops a.tmps)) : tIn P ops p o v a' w := by
  unfold tIn tReads at *
  rw [he, hw]
  exact hy

theorem tIn.tOp {p : Bool} {i : Nat} {o : Oper} {v : Value} {a : Act} {w : World} (hi : ops[i]? = some o) (hy : tIn P ops p o v a w) {K : Act → World → Prop} (h : K (a.put o.dst v) w) : tOp P ops T i K a w := by
  unfold NB.tOp
  simp only [hi]
  rcases hy with ⟨hw, hv⟩ | ⟨hw, rfl⟩
  · simp only [hw, if_true]
    split
    · unfold Oper.wp
      rw [hv w (.inr (Below.refl _ _))]
      exact h
    · unfold NB.tmoves
      rw [hv w (.inr (Below.refl _ _))]
      exact ⟨Below.refl _ _, h⟩
  · simp only [hw, Bool.false_eq_true, if_false]; exact h

theorem eval_defers (a : Act) (d : Deferred) : ({ a with defers := d :: a.defers } : Act).eval = a.eval := by
  funext x; cases x <;> rfl

theorem tOp_put {p : Bool} {j : Nat} {oi oj : Oper} {v : Value} (hj : ops[j]? = some oj) (hap : oi.apart ops oj = true)
    (hsi : ∀ cs b, oi.op ≠ .select cs b) (hsj : ∀ cs b, oj.op ≠ .select cs b) (hT : p = true ∨ T.contains j = false) {K : Act → World → Prop} {a : Act} {w : World}
    (hy : tIn P ops p oi v a w) (h : tOp P ops T j K (a.put oi.dst v) w) :
    tOp P ops T j (fun a' w' => tIn P ops p oi v a' w' ∧ K (a'.put oi.dst v) w') a w := by
  obtain ⟨h1, h2, h3⟩ := Oper.apart_spec hap
  have keep : ∀ (a : Act) w, tIn P ops p oi v a w → ∀ u, tIn P ops p oi v (a.put oj.dst u) w := fun a w hy u =>
    hy.of_same (execOp_put oi hsi a oj.dst u h3) (wanted_put oi a oj.dst u h3)
  unfold tOp at *
  simp only [hj] at *
  rw [wanted_put oj a oi.dst v h1] at h
  split
  · rename_i hw
    simp only [hw, if_true] at h
    split
    · rename_i hc
      simp only [hc, if_true] at h
      have hp : p = true := by
        rcases hT with h | h
        · exact h
        · rw [hc] at h; cases h
      unfold Oper.wp at *
      rw [execOp_put oj hsj a oi.dst v h1] at h
      generalize (execOp a.eval oj).run P w = r at *
      have fin : ∀ u w', K ((a.put oi.dst v).put oj.dst u) w' → tIn P ops p oi v (a.put oj.dst u) w' ∧ K ((a.put oj.dst u).put oi.dst v) w' := fun u w' hn =>
        ⟨keep a w' (hy.later (.inl hp)) u, by rw [← Act.put_comm a v u h2]; exact hn⟩
      cases r with
      | ok x w' =>
        cases x <;> simp only [Oper.upon] at h ⊢
        case value u => exact fin u _ h
        case skip => exact fin undef _ h
        case defer d =>
          have e1 : ({ a.put oi.dst v with defers := d :: (a.put oi.dst v).defers } : Act) = ({ a with defers := d :: a.defers } : Act).put oi.dst v := by
            cases oi.dst <;> rfl
          rw [e1, Act.put_comm _ v undef h2] at h
          refine ⟨?_, h⟩
          have hy' : tIn P ops p oi v ({ a with defers := d :: a.defers } : Act) w' := (hy.later (.inl hp)).of_same (by rw [eval_defers]) rfl
          exact keep _ w' hy' undef
        case enter f args =>
          refine Calls.mono h (fun e w'' he => ?_)
          cases e <;> first | exact fin _ _ he | exact he
        case row r args => exact Rows.mono h (fun u w'' he => fin u w'' he)
      | halt x w' => cases x <;> simp only [Oper.upon] at h ⊢ <;> exact h
    · rename_i hc
      simp only [hc] at h
      unfold NB.tmoves at *
      rw [execOp_put oj hsj a oi.dst v h1] at h
      refine tmoves_mono (o := oj) (a := a) (fun u w' hb hn => ?_) h
      exact ⟨keep a w' (hy.later (.inr hb)) u, by rw [← Act.put_comm a v u h2]; exact hn⟩
  · rename_i hw
    simp only [hw] at h
    exact ⟨keep a w hy _, by rw [← Act.put_comm a v undef h2]; exact h⟩

theorem tOp_mono {i : Nat} {a : Act} {w : World} {K K' : Act → World → Prop} (h : ∀ a w, K a w → K' a w) (hh : tOp P ops T i K a w) : tOp P ops T i K' a w := by
  unfold tOp at *
  split
  · exact h _ _ (by simpa [*] using hh)
  · rename_i o ho
    simp only [ho] at hh
    split
    · rename_i hw
      simp only [hw, if_true] at hh
      split
      · rename_i hc; simp only [hc, if_true] at hh; exact Oper.wp_mono h hh
      · rename_i hc; simp only [hc] at hh; exact tmoves_mono (fun v w' _ => h _ _) hh
    · rename_i hw; simp only [hw] at hh; exact h _ _ hh

/-- 'B': operations that wait for 'i', by itself or by one of 'B'. -/
def waitsB (ops : Array Oper) (listed : Array Bool) (i : Nat) (B : List Nat) : Prop :=
  ∀ b ∈ B, listed.getD b true = false ∧ ∃ ob, ops[b]? = some ob ∧ ∃ e ∈ ob.after, Region.binds .any e = true ∧ (e.on = i ∨ e.on ∈ B)

theorem not_both {l : Array Bool} {i : Nat} (h0 : l.getD i true = false) (h1 : l.getD i false = true) : False := by
  rcases Nat.lt_or_ge i l.size with h' | h'
  · simp [h'] at h0 h1; rw [h0] at h1; cases h1
  · simp [Array.getElem?_eq_none h'] at h1

theorem anyT_first {Q : Act → World → Prop} {i : Nat} {oi : Oper} {v : Value} {p : Bool} {B : List Nat} (hi : ops[i]? = some oi) (hsel : ∀ (j : Nat) (o : Oper) cs b, ops[j]? = some o → o.op ≠ .select cs b) :
    ∀ (fuel : Nat) (listed : Array Bool) (a : Act) (w : World), (p = true ∨ ((∀ t ∈ T, listed.getD t true = true ∨ t ∈ B) ∧ waitsB ops listed i B)) →
      (∀ j oj, ops[j]? = some oj → j ≠ i → listed.getD j true = false → (∀ e ∈ oj.after, Region.binds .any e = true → e.on ≠ i) → oi.apart ops oj = true) →
      i ∈ Region.ready .any ops listed → tIn P ops p oi v a w →
      anyT P ops T Q fuel (listed.setIfInBounds i true) (a.put oi.dst v) w → anyT P ops T Q (fuel + 1) listed a w := by
  intro fuel
  induction fuel with
  | zero =>
    intro listed a w _ _ hr hy H
    refine ⟨fun h => (by rw [h] at hr; cases hr), fun j hj => ?_⟩
    by_cases hji : j = i
    · subst hji; exact hy.tOp hi H
    · have := ready_mono hj hji
      rw [H.1] at this
      cases this
  | succ fuel ih =>
    intro listed a w hB hfree hr hy H
    refine ⟨fun h => (by rw [h] at hr; cases hr), fun j hj => ?_⟩
    by_cases hji : j = i
    · subst hji; exact hy.tOp hi H
    · have h1 := H.2 j (ready_mono hj hji)
      obtain ⟨hjun, oj, hoj, hall⟩ := mem_ready.1 hj
      have hi0 := (mem_ready.1 hr).1
      have hnot : ∀ e ∈ oj.after, Region.binds .any e = true → e.on ≠ i := fun e he hb heq => not_both hi0 (heq ▸ hall e he hb)
      have hjB : ∀ (_ : waitsB ops listed i B), j ∉ B := fun hw hm => by
        obtain ⟨_, ob, hob, e, he, hbi, hon⟩ := hw j hm
        rw [hoj] at hob
        cases hob
        rcases hon with hon | hon
        · exact hnot e he hbi hon
        · exact not_both (hw _ hon).1 (hall e he hbi)
      have hT : p = true ∨ T.contains j = false := by
        rcases hB with h | ⟨h, hw⟩
        · exact .inl h
        · refine .inr ?_
          cases hc : T.contains j with
          | false => rfl
          | true =>
            have hm : j ∈ T := by simpa using hc
            rcases h j hm with h | h
            · rw [hjun] at h; cases h
            · exact absurd h (hjB hw)
      have h2 := tOp_put hoj (hfree j oj hoj hji hjun hnot) (fun cs b => hsel i oi cs b hi) (fun cs b => hsel j oj cs b hoj) hT hy h1
      have hfree' : ∀ k ok, ops[k]? = some ok → k ≠ i → (listed.setIfInBounds j true).getD k true = false →
          (∀ e ∈ ok.after, Region.binds .any e = true → e.on ≠ i) → oi.apart ops ok = true := fun k ok hk hki hun hno => by
        refine hfree k ok hk hki ?_ hno
        by_cases hjk : j = k
        · subst hjk; exact hjun
        · rw [getD_set_ne true hjk] at hun; exact hun
      have hB' : p = true ∨ ((∀ t ∈ T, (listed.setIfInBounds j true).getD t true = true ∨ t ∈ B) ∧ waitsB ops (listed.setIfInBounds j true) i B) := by
        rcases hB with h | ⟨h, hw⟩
        · exact .inl h
        · refine .inr ⟨fun t ht => ?_, fun b hb => ?_⟩
          · rcases h t ht with h | h
            · refine .inl ?_
              by_cases hjt : j = t
              · subst hjt; rw [hjun] at h; cases h
              · rw [getD_set_ne true hjt]; exact h
            · exact .inr h
          · have hne : j ≠ b := fun e => hjB hw (e ▸ hb)
            obtain ⟨h1, h2⟩ := hw b hb
            exact ⟨by rw [getD_set_ne true hne]; exact h1, h2⟩
      refine tOp_mono (fun a' w' h3 => ih (listed.setIfInBounds j true) a' w' hB' hfree' (ready_mono hr (Ne.symm hji)) h3.1 ?_) h2
      rw [Array.setIfInBounds_comm _ _ hji]
      exact h3.2

/-- May operation 'i' be taken now? -/
def takeT (ops : Array Oper) (listed : Array Bool) (i : Nat) : Bool :=
  Region.noSelect ops && Region.free .any ops listed i && (Region.ready .any ops listed).contains i

/-- Do all of 'T' that are left wait for 'i' ('B': those that do)? -/
def holdT (ops : Array Oper) (T : List Nat) (listed : Array Bool) (i : Nat) (B : List Nat) : Bool :=
  (T.all fun t => listed.getD t true || B.contains t) && B.all fun b => !listed.getD b true && match ops[b]? with
    | some o => o.after.any fun e => Region.binds .any e && (e.on == i || B.contains e.on)
    | none => false

theorem holdT_spec {listed : Array Bool} {i : Nat} {B : List Nat} (h : holdT ops T listed i B = true) : (∀ t ∈ T, listed.getD t true = true ∨ t ∈ B) ∧ waitsB ops listed i B := by
  simp only [holdT, Bool.and_eq_true, List.all_eq_true] at h
  refine ⟨fun t ht => ?_, fun b hb => ?_⟩
  · have := h.1 t ht
    simpa using this
  · have h2 := h.2 b hb
    refine ⟨by simpa using h2.1, ?_⟩
    have h3 := h2.2
    split at h3
    · rename_i o ho
      refine ⟨o, ho, ?_⟩
      simp only [Array.any_eq_true] at h3
      obtain ⟨k, hk, h4⟩ := h3
      exact ⟨_, Array.getElem_mem hk, by simpa using h4⟩
    · cases h3

/-- What is left when an operation that needs nothing of memory is taken. -/
theorem t_p {Q : Act → World → Prop} (i : Nat) {o : Oper} {fuel : Nat} {listed : Array Bool} {a : Act} {w : World} (hi : ops[i]? = some o) (hB : takeT ops listed i = true)
    (h : ∀ K : Act → Prop, (∀ a, anyT P ops T Q fuel (listed.setIfInBounds i true) a w → K a) →
      if Region.wanted o (yielded ops a.tmps) then ∃ v, (∀ w', (execOp a.eval o).run P w' = .ok (.value v) w') ∧ K (a.put o.dst v) else K (a.put o.dst undef)) :
    anyT P ops T Q (fuel + 1) listed a w := by
  simp only [takeT, Bool.and_eq_true] at hB
  have h' := h _ (fun _ h => h)
  split at h'
  · rename_i hw
    obtain ⟨v, hv, hK⟩ := h'
    exact anyT_first (p := true) (B := []) hi (Region.noSelect_spec hB.1.1) fuel listed a w (.inl rfl) (Region.free_spec hi hB.1.2) (by simpa using hB.2) (.inl ⟨hw, fun w' _ => hv w'⟩) hK
  · rename_i hw
    exact anyT_first (p := true) (B := []) hi (Region.noSelect_spec hB.1.1) fuel listed a w (.inl rfl) (Region.free_spec hi hB.1.2) (by simpa using hB.2) (.inr ⟨by simpa using hw, rfl⟩) h'

/-- One that reads memory. -/
theorem t_r {Q : Act → World → Prop} (i : Nat) (B : List Nat) {o : Oper} {fuel : Nat} {listed : Array Bool} {a : Act} {w : World} (hi : ops[i]? = some o) (hB : takeT ops listed i = true) (hT : holdT ops T listed i B = true) (hw : Region.wanted o (yielded ops a.tmps) = true) (v : Value)
    (hr : ∀ w', Below w.heap.size w w' → (execOp a.eval o).run P w' = .ok (.value v) w')
    (h : ∀ K : Act → Prop, (∀ a, anyT P ops T Q fuel (listed.setIfInBounds i true) a w → K a) → K (a.put o.dst v)) : anyT P ops T Q (fuel + 1) listed a w := by
  simp only [takeT, Bool.and_eq_true] at hB
  exact anyT_first (p := false) (B := B) hi (Region.noSelect_spec hB.1.1) fuel listed a w (.inr (holdT_spec hT)) (Region.free_spec hi hB.1.2) (by simpa using hB.2) (.inl ⟨hw, fun w' hb => hr w' (hb.resolve_left (by simp))⟩) (h _ (fun _ h => h))

/-- The only one that may come up, which may make new memory. -/
theorem t_e {Q : Act → World → Prop} (i : Nat) {o : Oper} {fuel : Nat} {listed : Array Bool} {a : Act} {w : World} (hi : ops[i]? = some o) (hB : (Region.ready .any ops listed == [i]) = true) (hT : T.contains i = false)
    (h : ∀ K : Act → World → Prop, (∀ a w, anyT P ops T Q fuel (listed.setIfInBounds i true) a w → K a w) →
      if Region.wanted o (yielded ops a.tmps) then tmoves P o a w (fun v w' => K (a.put o.dst v) w') else K (a.put o.dst undef) w) :
    anyT P ops T Q (fuel + 1) listed a w := by
  have hr : Region.ready .any ops listed = [i] := by simpa using hB
  refine ⟨fun h0 => (by rw [hr] at h0; cases h0), fun j hj => ?_⟩
  rw [hr] at hj
  obtain rfl : j = i := by simpa using hj
  unfold tOp
  simp only [hi, hT]
  exact h _ (fun _ _ h => h)

/-- The only one that may come up: it does what it will. -/
theorem t_w {Q : Act → World → Prop} (i : Nat) {o : Oper} {fuel : Nat} {listed : Array Bool} {a : Act} {w : World} (hi : ops[i]? = some o) (hB : (Region.ready .any ops listed == [i]) = true) (hT : T.contains i = true)
    (hw : Region.wanted o (yielded ops a.tmps) = true)
    (h : ∀ Q' : Exit → Act → World → Prop, (∀ a w, anyT P ops T Q fuel (listed.setIfInBounds i true) a w → Q' .normal a w) → wpList P ops Q' [o] a w) :
    anyT P ops T Q (fuel + 1) listed a w := by
  have hr : Region.ready .any ops listed = [i] := by simpa using hB
  refine ⟨fun h0 => (by rw [hr] at h0; cases h0), fun j hj => ?_⟩
  rw [hr] at hj
  obtain rfl : j = i := by simpa using hj
  have h2 := h (fun e a w => e = .normal ∧ anyT P ops T Q fuel (listed.setIfInBounds j true) a w) (fun a w hK => ⟨rfl, hK⟩)
  unfold tOp
  simp only [hi, hT, if_true, hw]
  unfold wpList at h2
  simp only [hw, if_true] at h2
  rcases h2 with h2 | ⟨_, _, _, h2, _⟩
  · exact wp_exits (fun _ _ _ h => nomatch h.1) (fun ⟨_, _, h⟩ => nomatch h.1) (Oper.wp_mono (fun a w (h : wpList P ops _ [] a w) => h.2) h2)
  · cases h2

/-- The same for one that is wanted. -/
theorem t_m {Q : Act → World → Prop} (i : Nat) {o : Oper} {fuel : Nat} {listed : Array Bool} {a : Act} {w : World} (hi : ops[i]? = some o) (hB : (Region.ready .any ops listed == [i]) = true) (hT : T.contains i = false) (hw : Region.wanted o (yielded ops a.tmps) = true)
    (h : ∀ K : Act → World → Prop, (∀ a w, anyT P ops T Q fuel (listed.setIfInBounds i true) a w → K a w) → tmoves P o a w (fun v w' => K (a.put o.dst v) w')) :
    anyT P ops T Q (fuel + 1) listed a w :=
  t_e i hi hB hT fun K hK => by rw [if_pos hw]; exact h K hK

theorem t_end {Q : Act → World → Prop} {listed : Array Bool} {a : Act} {w : World} (hB : (Region.ready .any ops listed == []) = true) (h : Q a w) : anyT P ops T Q 0 listed a w :=
  ⟨by simpa using hB, h⟩
end

section
variable {P : Program}

/-- A load of one cell, in whatever later world. -/
theorem run_op_load {o : Oper} {ty : TypeId} {x : Operand} (ho : o.op = .load ty x) {a : Act} {g off : Nat} (hx : a.eval x = .pointer (some ⟨g, off, none⟩)) {d : TypeDesc} (hu : P.underlying ty = some d)
    (hd : (match d with | .struct _ | .array _ _ => false | _ => true) = true) {w w' : World} {v : Value} (hc : w.cell? ⟨g, off, none⟩ = some v) (hb : Below w.heap.size w w') :
    (execOp a.eval o).run P w' = .ok (.value v) w' := by
  have hc' : w'.cell? ⟨g, off, none⟩ = some v := (hb.cell (World.block_lt_of_cell? w _ hc)).trans hc
  have hagg : (isAgg ty).run P w' = .ok false w' := by
    unfold isAgg
    rw [Sem.run_bind, run_underlying hu w']
    cases d <;> simp_all
  unfold execOp
  simp only [ho, hx, Instr.loadAt, Instr.sureAddr, Sem.run_bind, Sem.run_pure, Result.andThen_ok, loadVar, hagg]
  simp [hc']

/-- A load of an aggregate, in whatever later world. -/
theorem run_op_load_agg {o : Oper} {ty : TypeId} {x : Operand} (ho : o.op = .load ty x) {a : Act} {g off m : Nat} (hx : a.eval x = .pointer (some ⟨g, off, none⟩)) {d : TypeDesc} (hu : P.underlying ty = some d)
    (hd : (match d with | .struct _ | .array _ _ => true | _ => false) = true) {w w' : World} (t : TypeId) (cur : Array Value) (fr : Nat × Nat) (hg : w.heap[g]? = some (.cells cur t fr)) (hi : (P.info? ty).map (·.size) = some m) (hm : off + m ≤ cur.size) (vs : Array Value) (hvs : cur.extract off (off + m) = vs) (hb : Below w.heap.size w w') :
    (execOp a.eval o).run P w' = .ok (.value (.agg vs)) w' := by
  subst hvs
  have hg' : w'.heap[g]? = some (.cells cur t fr) := (hb.block g (Array.getElem?_eq_some_iff.1 hg).1).trans hg
  have hl : (loadCells ⟨g, off, none⟩ (cur.extract off (off + m)).toList.length).run P w' = .ok (cur.extract off (off + m)).toList.toArray w' :=
    run_loadCells_list (P := P) w' ⟨g, off, none⟩ _ (fun j v hv => by
      rw [addr_add, cell_of_row w' g (off + j) cur t fr hg']
      simp only [Array.getElem?_toList] at hv
      rw [Array.getElem?_extract] at hv
      split at hv
      · exact hv
      · cases hv)
  have hlen : (cur.extract off (off + m)).toList.length = m := by simp; omega
  rw [hlen] at hl
  simp only [Array.toArray_toList] at hl
  have hrun : (loadVar ty ⟨g, off, none⟩).run P w' = .ok (.agg (cur.extract off (off + m))) w' := by
    cases hq : P.info? ty with
    | none => simp [hq] at hi
    | some i =>
      have hs : i.size = m := by simpa [hq] using hi
      have hagg : (isAgg ty).run P w' = .ok true w' := by
        unfold isAgg
        rw [Sem.run_bind, run_underlying hu w']
        cases d <;> simp_all
      simp [loadVar, Sem.run_bind, hagg, sizeOf, typeInfo, hq, hs, hl]
  unfold execOp
  simp only [ho, hx, Instr.loadAt, Instr.sureAddr, Sem.run_bind, Sem.run_pure, Result.andThen_ok, hrun]

/-- A row of one aggregate, made anew. -/
theorem run_build_one {t e : TypeId} {z : Value} {size bytes : Nat} (T : SlT P t e z size bytes) (hs : size ≤ 16777216) (cs : Array Value) (hc : cs.size = size) (w : World) :
    (Instr.buildSlice t 1 #[(0, .agg cs)]).run P w = .ok (.slice (some ⟨w.heap.size, 0, none⟩) 1 1) (w.alloc (.cells cs e)) := by
  obtain ⟨i, hi, hz, hsz, hby⟩ := T.hi
  have hp := T.hp
  refine Go.run_buildSlice w t e 1 _ cs i z T.ht hi hz (by rw [hsz]; omega) (by rw [hsz]; omega) ?_
  obtain ⟨r, h1, h2, h3⟩ := Go.Great.fill_dense hp [.agg cs] 0 ((Array.range (1 * i.size)).map (z.cells[· % z.cells.size]!)) (by intro v hv; simp at hv; subst hv; exact hc) (by simp [hsz])
  rw [hsz] at h1 h2 h3 ⊢
  have e1 : r = cs := by
    apply Array.ext_getElem?
    intro k
    rw [h3]
    by_cases hk : k < size
    · rw [if_pos (by simpa using hk), Nat.div_eq_of_lt hk, Nat.mod_eq_of_lt hk]
      simp [Value.cells]
    · rw [if_neg (by simpa using hk)]
      rw [Array.getElem?_eq_none (by simp; omega), Array.getElem?_eq_none (by omega)]
  subst e1
  exact h1
end

theorem tmoves_build_one {P : Program} {o : Oper} {a : Act} {w : World} {next : Value → World → Prop} {t e : TypeId} {z : Value} {size bytes : Nat} (T : SlT P t e z size bytes) (hs : size ≤ 16777216) {x : Operand} (ho : o.op = .buildSlice t 1 #[(0, x)])
    (cs : Array Value) (hx : a.eval x = .agg cs) (hc : cs.size = size) (h : next (.slice (some ⟨w.heap.size, 0, none⟩) 1 1) (w.alloc (.cells cs e))) : tmoves P o a w next := by
  unfold tmoves execOp
  have e1 : (#[(0, x)] : Array (Nat × Operand)).map (fun (i, x) => (i, a.eval x)) = #[(0, .agg cs)] := by simp [hx]
  simp only [ho, Sem.run_bind, e1, run_build_one T hs cs hc w, Result.andThen_ok]
  exact ⟨(Below.refl _ _).alloc (Nat.le_refl _) _, h⟩

/-- Where the row of an append lies: where it lay, or in new memory. -/
theorem append_block {P : Program} {w : World} (base : Nat) (t ty e : TypeId) (i : TypeInfo) (z : Value) (size bytes : Nat) (ht : P.underlying t = some (.slice e)) (hi : P.info? e = some i) (hz : i.zero = some z)
    (hsize : i.size = size) (hby : i.bytes = bytes)
    (v : Value) (n : Nat) (xs : List Value) (hown : w.ownsRow base e size v n xs)
    (a : Addr) (m c : Nat) (news : List Value) (hl : news.length = m * size) (hnews : ∀ j u, news[j]? = some u → w.cell? (a.add j) = some u) (h1 : ∀ u ∈ news, u.oneCell' = true)
    (h63 : n + m ≤ maxLen) (hbytes : (n + m) * bytes ≤ 140737488355328) {v' : Value} {w' : World}
    (hrun : (Builtin.append_ #[t, t] ty #[v, .slice (some a) m c]).run P w = .ok v' w') (k : Nat) (hk : v'.ownBlock = some k) : v.ownBlock = some k ∨ w.heap.size ≤ k := by
  subst hsize
  subst hby
  have hsmall : n + m ≤ 9223372036854775807 := by simp only [maxLen] at h63; omega
  rcases hown.2 with ⟨rfl, rfl⟩ | ⟨g, cap, cur, rfl, hbg, hg, hnc, hcm, hcs, htake⟩
  · by_cases hm : m = 0
    · subst hm
      have hn : news = [] := List.eq_nil_of_length_eq_zero (by simpa using hl)
      subst hn
      have hr : (Builtin.append_ #[t, t] ty #[.slice none 0 0, .slice (some a) 0 c]).run P w = .ok (.slice none 0 0) w := by
        simp [Builtin.append_, run_underlying ht, sizeOf, typeInfo, hi, Builtin.lenOf, Builtin.firstCells, loadCells, loadCellsFrom]
      rw [hr] at hrun
      cases hrun
      cases hk
    · have hr := run_append_nil (P := P) w t ty e i z ht hi hz a m c news hl hnews (by omega) (by omega) (by have hb := hbytes; simp only [Nat.zero_add] at hb; omega)
      rw [hr] at hrun
      cases hrun
      cases hk
      exact .inr (Nat.le_refl _)
  · by_cases hroom : n + m ≤ cap
    · have hfit : n * i.size + news.length ≤ cur.size := by rw [hl, hcs, ← Nat.add_mul]; exact Nat.mul_le_mul_right _ hroom
      have hr := run_append_room (P := P) w t ty e i ht hi g n cap cur hg a m c news hl hnews h1 hroom hfit
      rw [hr] at hrun
      cases hrun
      cases hk
      exact .inl rfl
    · have holds : ∀ j u, xs[j]? = some u → w.cell? ((⟨g, 0, none⟩ : Addr).add j) = some u := hown.cells (g := g) rfl
      have hr := run_append_grow (P := P) w t ty e i z ht hi hz ⟨g, 0, none⟩ n cap xs hown.1 holds a m c news hl hnews (by omega) (by omega) (growslice_fits (by omega) hbytes)
      rw [hr] at hrun
      cases hrun
      cases hk
      exact .inr (Nat.le_refl _)

/-- 'append' onto a row of the call's own, from a row that is there; and where the new row lies. -/
theorem wpList_append_at {P : Program} {w : World} {ops : Array Oper} {rest : List Oper} {o : Oper} {a : Act} {Q : Exit → Act → World → Prop} (hgd : Region.wanted o (yielded ops a.tmps) = true) (s x : Operand) (t : TypeId)
    (ho : o.op = .call { callee := .builtin .append, args := #[s, x], argTypes := #[t, t] })
    (base : Nat) {e : TypeId} {z : Value} {size bytes : Nat} (T : SlT P t e z size bytes)
    (v : Value) (n : Nat) (xs : List Value) (hs : a.eval s = v) (hown : w.ownsRow base e size v n xs)
    (ad : Option Addr) (m c : Nat) (news : List Value) (hx : a.eval x = .slice ad m c) (hr : Rd size w ad m c news) (h1 : ∀ u ∈ news, u.oneCell' = true)
    (hbytes : (n + m) * bytes ≤ 140737488355328) (h63 : n + m ≤ maxLen) (hbase : base ≤ w.heap.size)
    (h : ∀ v' w', w'.ownsRow base e size v' (n + m) (xs ++ news) → w.grownBy w' v.ownBlock → (∀ k, v'.ownBlock = some k → v.ownBlock = some k ∨ w.heap.size ≤ k) → wpList P ops Q rest (a.put o.dst v') w') : wpList P ops Q (o :: rest) a w := by
  obtain ⟨i, hi, hz, hsz, hby⟩ := T.hi
  refine wpList_wanted hgd fun K hK => ?_
  cases ad with
  | none =>
    have hc := hr.nil rfl
    have hle := hr.le
    obtain rfl : c = 0 := hc
    obtain rfl : m = 0 := by omega
    have : news = [] := List.eq_nil_of_length_eq_zero (by rw [hr.len]; simp)
    subst this
    have hrun := run_append_owned_none (P := P) (w := w) base t o.type e i size T.ht hi v n xs hown
    unfold Oper.wp
    simp [execOp, ho, resolve, invoke, builtin, hs, hx, hrun, Result.andThen]
    exact hK _ _ (h v w (by simpa using hown) (World.grownBy.refl _ _) (fun k hk => .inl hk))
  | some x0 =>
    have hnews : ∀ j u, news[j]? = some u → w.cell? (x0.add j) = some u := by
      intro j u hu
      have hn : 0 < m := by
        rcases Nat.eq_zero_or_pos m with e | e
        · subst e
          have : news = [] := List.eq_nil_of_length_eq_zero (by rw [hr.len]; simp)
          subst this; simp at hu
        · exact e
      obtain ⟨b, o', e, hc⟩ := hr.pos hn
      cases e
      rw [addr_add]
      exact hc j u hu
    obtain ⟨v', w', hrun, h2, h3, _⟩ := run_append_own (P := P) w base t o.type e i z size bytes T.ht hi hz hsz hby T.hz T.hp v n xs hown x0 m c news hr.len hnews h1 h63 hbytes hbase
    have h4 := append_block base t o.type e i z size bytes T.ht hi hz hsz hby v n xs hown x0 m c news hr.len hnews h1 h63 hbytes hrun
    unfold Oper.wp execOp
    simp only [ho, resolve, invoke, builtin, Sem.run_bind, Sem.run_pure, Result.andThen_ok, List.map_toArray, List.map_cons, List.map_nil, hs, hx, hrun]
    exact hK _ _ (h v' w' h2 h3 h4)

open Go.RowKit in
/-- 'copy' into a block whose row is known: nothing else turns. -/
theorem wpList_copy_at {P : Program} {w : World} {ops : Array Oper} {rest : List Oper} {o : Oper} {a : Act} {Q : Exit → Act → World → Prop} (hgd : o.guard = none) (d s : Operand) (dT sT : TypeId)
    (ho : o.op = .call { callee := .builtin .copy, args := #[d, s], argTypes := #[dT, sT] }) (elem : TypeId) (hu : P.underlying dT = some (.slice elem)) (hsz : (P.info? elem).map (·.size) = some 1)
    (dp sp : Option Addr) (dLen dCap sLen sCap : Nat) (hd : a.eval d = .slice dp dLen dCap) (hs : a.eval s = .slice sp sLen sCap)
    (g off : Nat) (cur : List Value) (t : TypeId) (hg : w.heap[g]? = some (.cells cur.toArray t (0, 0))) (cs : List Value) (hn : cs.length = Nat.min sLen dLen)
    (hpos : 0 < cs.length → dp = some ⟨g, off, none⟩ ∧ ∃ ad, sp = some ad ∧ ∀ j v, cs[j]? = some v → w.cell? (ad.add j) = some v)
    (hfit : off + cs.length ≤ cur.length) (h1 : ∀ v ∈ cs, v.oneCell' = true)
    (h : ∀ w', w'.heap[g]? = some (.cells (_root_.Go.splice cur off cs).toArray t (0, 0)) → w.grownBy w' (some g) → wpList P ops Q rest (a.put o.dst (goInt cs.length)) w') :
    wpList P ops Q (o :: rest) a w := by
  by_cases h0 : cs.length = 0
  · obtain rfl : cs = [] := List.eq_nil_of_length_eq_zero h0
    refine wpList_copy_nothing hgd d s dT sT ho elem hu hsz dp sp dLen dCap sLen sCap hd hs (by simpa using hn.symm) ?_
    exact h w (by simpa [_root_.Go.splice] using hg) (World.grownBy.refl _ _)
  · obtain ⟨rfl, ad, rfl, hsrc⟩ := hpos (by omega)
    refine wpList_copy_own hgd d s dT sT ho elem hu hsz g off dLen dCap ad sLen sCap hd hs cur.toArray t hg cs hn hsrc (by simpa using hfit) h1 ?_
    exact h _ (by simpa [_root_.Go.splice] using setRow_heap w g _ _ t _ hg) ⟨rfl, rfl, rfl, by simp, fun k _ hk => setRow_other _ _ _ _ (fun e => hk (by rw [e]))⟩

theorem rdB_tail {w : World} {a : Option Addr} {n c : Nat} {bs : List UInt8} (h : RdB w a n c bs) (k : Nat) (hk : k ≤ n) :
    RdB w (if c = k then a else a.map fun x => x.add k) (n - k) (c - k) (bs.drop k) := by
  have hs := RdB.size h
  have hle := h.le
  refine ⟨by simp; omega, by omega, by have := h.max; omega, ?_, ?_, ?_⟩
  · intro e
    split at e
    · omega
    · cases a with
      | none => have := h.nil rfl; omega
      | some x => cases e
  · intro hc
    obtain ⟨b, o, rfl⟩ := h.adr (by omega)
    rw [if_neg (by omega)]
    exact ⟨b, o + k, by simp [addr_add]⟩
  · intro b o e i v hi
    rw [List.map_drop, List.getElem?_drop] at hi
    split at e
    · have : k + i < (bs.map u8v).length := (List.getElem?_eq_some_iff.1 hi).1
      simp at this; omega
    · cases a with
      | none => cases e
      | some x =>
        have hn : 0 < c := by
          have : k + i < (bs.map u8v).length := (List.getElem?_eq_some_iff.1 hi).1
          simp at this; omega
        obtain ⟨b', o', e'⟩ := h.adr hn
        cases e'
        simp only [Option.map_some, addr_add, Option.some.injEq, Addr.mk.injEq, and_true] at e
        obtain ⟨rfl, rfl⟩ := e
        rw [Nat.add_assoc]
        exact h.cell _ _ rfl _ _ hi

end Go.NB
