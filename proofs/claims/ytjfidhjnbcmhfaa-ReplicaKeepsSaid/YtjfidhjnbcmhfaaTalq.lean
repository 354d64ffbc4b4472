/- Regions that draw their order, once more: one operation that writes ('r': an append) may come up ahead of reads of which 'A' tells; 'r' keeps 'A'; the others of 'T' wait for the reads. No program in sight. -/
import Derived.Test.YtjfidhjnbcmhfaaTals
namespace Go.NB
open Go Go.RowKit

section
variable {P : Program} {ops : Array Oper} {T : List Nat} {r : Nat} {A : World → Prop}

/-- Operation number 'i' comes up; one of 'T' keeps 'A'. -/
def qOp (P : Program) (ops : Array Oper) (T : List Nat) (r : Nat) (A : World → Prop) (i : Nat) (K : Act → World → Prop) (a : Act) (w : World) : Prop :=
  match ops[i]? with
  | none => K a w
  | some o => if Region.wanted o (yielded ops a.tmps) then (if T.contains i then o.wp P a w (fun a w' => (i = r → A w') ∧ K a w') noExit else tmoves P o a w (fun v w' => K (a.put o.dst v) w')) else K (a.put o.dst undef) w

/-- Whatever order is picked from here on. -/
def anyQ (P : Program) (ops : Array Oper) (T : List Nat) (r : Nat) (A : World → Prop) (Q : Act → World → Prop) : Nat → Array Bool → Act → World → Prop
  | 0, listed, a, w => Region.ready .any ops listed = [] ∧ Q a w
  | fuel + 1, listed, a, w =>
    (Region.ready .any ops listed = [] → Q a w) ∧
    ∀ i ∈ Region.ready .any ops listed, qOp P ops T r A i (anyQ P ops T r A Q fuel (listed.setIfInBounds i true)) a w

theorem any_of_anyQ {Q : Act → World → Prop} {Q' : Exit → Act → World → Prop} (hQ : ∀ a w, Q a w → Q' .normal a w) : ∀ (fuel : Nat) (listed : Array Bool) (a : Act) (w : World),
    anyQ P ops T r A Q fuel listed a w → wpAny P .any ops Q' fuel listed a w
  | 0, _, _, _, h => ⟨h.1, hQ _ _ h.2⟩
  | fuel + 1, listed, a, w, h => ⟨fun h0 => hQ _ _ (h.1 h0), fun i hi => by
      have := h.2 i hi
      unfold qOp at this
      unfold wpOp
      split
      · rename_i ho; simp only [ho] at this; exact any_of_anyQ hQ fuel _ _ _ this
      · rename_i o ho
        simp only [ho] at this
        split
        · rename_i hw
          simp only [hw, if_true] at this
          split at this
          · exact .inl (wp_noExit (Oper.wp_mono (fun a w hn => any_of_anyQ hQ fuel _ a w hn.2) this))
          · exact .inl (wp_of_tmoves (tmoves_mono (fun v w' _ hn => any_of_anyQ hQ fuel _ _ _ hn) this))
        · rename_i hw
          simp only [hw] at this
          exact any_of_anyQ hQ fuel _ _ _ this⟩

/-- The region from its orders. -/
theorem wp_region_q (T : List Nat) (r : Nat) (A : World → Prop) {id : Nat} {Q : Exit → Act → World → Prop} {a : Act} {w : World} (hm : P.follows .mixedOrders = true)
    (h : anyQ P ops T r A (fun a w => Q .normal a w) ops.size (Array.replicate ops.size false) a w.drew) : (Code.region id ops true).wp P Q a w :=
  wp_region_any hm (any_of_anyQ (fun _ _ h => h) _ _ _ _ h)

/-- An operation taken: it keeps 'A' if 'A' holds already. -/
theorem sIn.qOp {S : World → Prop} {i : Nat} {o : Oper} {v : Value} {a : Act} {w : World} (hi : ops[i]? = some o) (hy : sIn P ops S o v a w) (hA : (i = r → A w) ∨ T.contains i = false) {K : Act → World → Prop} (h : K (a.put o.dst v) w) : qOp P ops T r A i K a w := by
  unfold NB.qOp
  simp only [hi]
  rcases hy with ⟨hw, hv⟩ | ⟨hw, rfl⟩
  · simp only [hw, if_true]
    split
    · rename_i hc
      have hA : i = r → A w := by
        rcases hA with h | h
        · exact h
        · rw [hc] at h; cases h
      unfold Oper.wp
      rw [hv w (.inr (Below.refl _ _))]
      exact ⟨hA, h⟩
    · unfold NB.tmoves
      rw [hv w (.inr (Below.refl _ _))]
      exact ⟨Below.refl _ _, h⟩
  · simp only [hw, Bool.false_eq_true, if_false]; exact h

theorem qOp_put {S : World → Prop} {j : Nat} {oi oj : Oper} {v : Value} (hj : ops[j]? = some oj) (hap : oi.apart ops oj = true)
    (hsi : ∀ cs b, oi.op ≠ .select cs b) (hsj : ∀ cs b, oj.op ≠ .select cs b) (hst : ∀ x y, S x → Below x.heap.size x y → S y) (hT : ((∀ x, S x) ∨ (j = r ∧ ∀ x, A x → S x)) ∨ T.contains j = false) {K : Act → World → Prop} {a : Act} {w : World}
    (hy : sIn P ops S oi v a w) (h : qOp P ops T r A j K (a.put oi.dst v) w) :
    qOp P ops T r A j (fun a' w' => sIn P ops S oi v a' w' ∧ K (a'.put oi.dst v) w') a w := by
  obtain ⟨h1, h2, h3⟩ := Oper.apart_spec hap
  have keep : ∀ (a : Act) w, sIn P ops S oi v a w → ∀ u, sIn P ops S oi v (a.put oj.dst u) w := fun a w hy u =>
    hy.of_same (execOp_put oi hsi a oj.dst u h3) (wanted_put oi a oj.dst u h3)
  unfold qOp at *
  simp only [hj] at *
  rw [wanted_put oj a oi.dst v h1] at h
  split
  · rename_i hw
    simp only [hw, if_true] at h
    split
    · rename_i hc
      simp only [hc, if_true] at h
      have hp : (∀ x, S x) ∨ (j = r ∧ ∀ x, A x → S x) := by
        rcases hT with h | h
        · exact h
        · rw [hc] at h; cases h
      unfold Oper.wp at *
      rw [execOp_put oj hsj a oi.dst v h1] at h
      generalize (execOp a.eval oj).run P w = rr at *
      have fin : ∀ u w', (j = r → A w') ∧ K ((a.put oi.dst v).put oj.dst u) w' → (j = r → A w') ∧ sIn P ops S oi v (a.put oj.dst u) w' ∧ K ((a.put oj.dst u).put oi.dst v) w' := fun u w' hn =>
        ⟨hn.1, keep a w' (hy.later (.inl ⟨hst, hp.elim (fun h => h _) (fun h => h.2 _ (hn.1 h.1))⟩)) u, by rw [← Act.put_comm a v u h2]; exact hn.2⟩
      cases rr with
      | ok x w' =>
        cases x <;> simp only [Oper.upon] at h ⊢
        case value u => exact fin u _ h
        case skip => exact fin undef _ h
        case defer d =>
          have e1 : ({ a.put oi.dst v with defers := d :: (a.put oi.dst v).defers } : Act) = ({ a with defers := d :: a.defers } : Act).put oi.dst v := by
            cases oi.dst <;> rfl
          rw [e1, Act.put_comm _ v undef h2] at h
          refine ⟨h.1, ?_, h.2⟩
          have hy' : sIn P ops S oi v ({ a with defers := d :: a.defers } : Act) w' := (hy.later (.inl ⟨hst, hp.elim (fun h => h _) (fun q => q.2 _ (h.1 q.1))⟩)).of_same (by rw [eval_defers]) rfl
          exact keep _ w' hy' undef
        case enter f args =>
          refine Calls.mono h (fun e w'' he => ?_)
          cases e <;> first | exact fin _ _ he | exact he
        case row rq args => exact Rows.mono h (fun u w'' he => fin u w'' he)
      | halt x w' => cases x <;> simp only [Oper.upon] at h ⊢ <;> exact h
    · rename_i hc
      simp only [hc] at h
      unfold NB.tmoves at *
      rw [execOp_put oj hsj a oi.dst v h1] at h
      refine tmoves_mono (o := oj) (a := a) (fun u w' hb hn => ?_) h
      exact ⟨keep a w' (hy.later (.inr hb)) u, by rw [← Act.put_comm a v u h2]; exact hn⟩
  · rename_i hw
    simp only [hw] at h
    exact ⟨keep a w hy _, by rw [← Act.put_comm a v undef h2]; exact h⟩

theorem qOp_mono {i : Nat} {a : Act} {w : World} {K K' : Act → World → Prop} (h : ∀ a w, K a w → K' a w) (hh : qOp P ops T r A i K a w) : qOp P ops T r A i K' a w := by
  unfold qOp at *
  split
  · exact h _ _ (by simpa [*] using hh)
  · rename_i o ho
    simp only [ho] at hh
    split
    · rename_i hw
      simp only [hw, if_true] at hh
      split
      · rename_i hc; simp only [hc, if_true] at hh; exact Oper.wp_mono (fun a w hn => ⟨hn.1, h _ _ hn.2⟩) hh
      · rename_i hc; simp only [hc] at hh; exact tmoves_mono (fun v w' _ => h _ _) hh
    · rename_i hw; simp only [hw] at hh; exact h _ _ hh

theorem anyQ_first {Q : Act → World → Prop} {i : Nat} {oi : Oper} {v : Value} {S : World → Prop} {B : List Nat} (hi : ops[i]? = some oi) (hiT : T.contains i = false) (hsel : ∀ (j : Nat) (o : Oper) cs b, ops[j]? = some o → o.op ≠ .select cs b) (hst : ∀ x y, S x → Below x.heap.size x y → S y) :
    ∀ (fuel : Nat) (listed : Array Bool) (a : Act) (w : World), ((∀ t ∈ T, listed.getD t true = true ∨ t ∈ B ∨ ((∀ x, S x) ∨ (t = r ∧ ∀ x, A x → S x))) ∧ waitsB ops listed i B) →
      (∀ j oj, ops[j]? = some oj → j ≠ i → listed.getD j true = false → (∀ e ∈ oj.after, Region.binds .any e = true → e.on ≠ i) → oi.apart ops oj = true) →
      i ∈ Region.ready .any ops listed → sIn P ops S oi v a w →
      anyQ P ops T r A Q fuel (listed.setIfInBounds i true) (a.put oi.dst v) w → anyQ P ops T r A Q (fuel + 1) listed a w := by
  intro fuel
  induction fuel with
  | zero =>
    intro listed a w _ _ hr hy H
    refine ⟨fun h => (by rw [h] at hr; cases hr), fun j hj => ?_⟩
    by_cases hji : j = i
    · subst hji; exact hy.qOp hi (.inr hiT) H
    · have := ready_mono hj hji
      rw [H.1] at this
      cases this
  | succ fuel ih =>
    intro listed a w hB hfree hr hy H
    refine ⟨fun h => (by rw [h] at hr; cases hr), fun j hj => ?_⟩
    by_cases hji : j = i
    · subst hji; exact hy.qOp hi (.inr hiT) H
    · have h1 := H.2 j (ready_mono hj hji)
      obtain ⟨hjun, oj, hoj, hall⟩ := mem_ready.1 hj
      have hi0 := (mem_ready.1 hr).1
      have hnot : ∀ e ∈ oj.after, Region.binds .any e = true → e.on ≠ i := fun e he hb heq => not_both hi0 (heq ▸ hall e he hb)
      have hjB : ∀ (_ : waitsB ops listed i B), j ∉ B := fun hw hm => by
        obtain ⟨_, ob, hob, e, he, hbi, hon⟩ := hw j hm
        rw [hoj] at hob
        cases hob
        rcases hon with hon | hon
        · exact hnot e he hbi hon
        · exact not_both (hw _ hon).1 (hall e he hbi)
      have hT : ((∀ x, S x) ∨ (j = r ∧ ∀ x, A x → S x)) ∨ T.contains j = false := by
        obtain ⟨h, hw⟩ := hB
        cases hc : T.contains j with
        | false => exact .inr rfl
        | true =>
          have hm : j ∈ T := by simpa using hc
          rcases h j hm with h | h | h
          · rw [hjun] at h; cases h
          · exact absurd h (hjB hw)
          · exact .inl h
      have h2 := qOp_put hoj (hfree j oj hoj hji hjun hnot) (fun cs b => hsel i oi cs b hi) (fun cs b => hsel j oj cs b hoj) hst hT hy h1
      have hfree' : ∀ k ok, ops[k]? = some ok → k ≠ i → (listed.setIfInBounds j true).getD k true = false →
          (∀ e ∈ ok.after, Region.binds .any e = true → e.on ≠ i) → oi.apart ops ok = true := fun k ok hk hki hun hno => by
        refine hfree k ok hk hki ?_ hno
        by_cases hjk : j = k
        · subst hjk; exact hjun
        · rw [getD_set_ne true hjk] at hun; exact hun
      have hB' : (∀ t ∈ T, (listed.setIfInBounds j true).getD t true = true ∨ t ∈ B ∨ ((∀ x, S x) ∨ (t = r ∧ ∀ x, A x → S x))) ∧ waitsB ops (listed.setIfInBounds j true) i B := by
        obtain ⟨h, hw⟩ := hB
        refine ⟨fun t ht => ?_, fun b hb => ?_⟩
        · rcases h t ht with h | h
          · refine .inl ?_
            by_cases hjt : j = t
            · subst hjt; rw [hjun] at h; cases h
            · rw [getD_set_ne true hjt]; exact h
          · exact .inr h
        · have hne : j ≠ b := fun e => hjB hw (e ▸ hb)
          obtain ⟨h1, h2⟩ := hw b hb
          exact ⟨by rw [getD_set_ne true hne]; exact h1, h2⟩
      refine qOp_mono (fun a' w' h3 => ih (listed.setIfInBounds j true) a' w' hB' hfree' (ready_mono hr (Ne.symm hji)) h3.1 ?_) h2
      rw [Array.setIfInBounds_comm _ _ hji]
      exact h3.2

/-- One that reads memory of which 'A' tells. -/
theorem q_a {Q : Act → World → Prop} (i : Nat) (B : List Nat) {o : Oper} {fuel : Nat} {listed : Array Bool} {a : Act} {w : World} (hi : ops[i]? = some o) (hB : (takeT ops listed i && !T.contains i) = true) (hT : holdT ops (T.filter (fun t => !(t == r))) listed i B = true) (hw : Region.wanted o (yielded ops a.tmps) = true) (v : Value) (S : World → Prop)
    (hAS : ∀ x, A x → S x) (hA : S w) (hst : ∀ x y, S x → Below x.heap.size x y → S y) (hr : ∀ w', S w' → (execOp a.eval o).run P w' = .ok (.value v) w')
    (h : ∀ K : Act → Prop, (∀ a, anyQ P ops T r A Q fuel (listed.setIfInBounds i true) a w → K a) → K (a.put o.dst v)) : anyQ P ops T r A Q (fuel + 1) listed a w := by
  simp only [takeT, Bool.and_eq_true] at hB
  have hiT : T.contains i = false := by simpa using hB.2
  obtain ⟨h1, h2⟩ := holdT_spec hT
  refine anyQ_first (S := S) (B := B) hi hiT (Region.noSelect_spec hB.1.1.1) hst fuel listed a w ⟨fun t ht => ?_, h2⟩ (Region.free_spec hi hB.1.1.2) (by simpa using hB.1.2) (.inl ⟨hw, fun w' hb => hr w' (hb.elim id (hst _ _ hA))⟩) (h _ (fun _ h => h))
  by_cases htr : t = r
  · exact .inr (.inr (.inr ⟨htr, hAS⟩))
  · rcases h1 t (by simp [ht, htr]) with h | h
    · exact .inl h
    · exact .inr (.inl h)

/-- One that needs nothing of memory. -/
theorem q_p {Q : Act → World → Prop} (i : Nat) {o : Oper} {fuel : Nat} {listed : Array Bool} {a : Act} {w : World} (hi : ops[i]? = some o) (hB : (takeT ops listed i && !T.contains i) = true)
    (h : ∀ K : Act → Prop, (∀ a, anyQ P ops T r A Q fuel (listed.setIfInBounds i true) a w → K a) →
      if Region.wanted o (yielded ops a.tmps) then ∃ v, (∀ w', (execOp a.eval o).run P w' = .ok (.value v) w') ∧ K (a.put o.dst v) else K (a.put o.dst undef)) :
    anyQ P ops T r A Q (fuel + 1) listed a w := by
  simp only [takeT, Bool.and_eq_true] at hB
  have hiT : T.contains i = false := by simpa using hB.2
  have h' := h _ (fun _ h => h)
  split at h'
  · rename_i hw
    obtain ⟨v, hv, hK⟩ := h'
    exact anyQ_first (S := fun _ => True) (B := []) hi hiT (Region.noSelect_spec hB.1.1.1) (fun _ _ _ _ => trivial) fuel listed a w ⟨fun t _ => .inr (.inr (.inl fun _ => trivial)), by intro b hb; simp at hb⟩ (Region.free_spec hi hB.1.1.2) (by simpa using hB.1.2) (.inl ⟨hw, fun w' _ => hv w'⟩) hK
  · rename_i hw
    exact anyQ_first (S := fun _ => True) (B := []) hi hiT (Region.noSelect_spec hB.1.1.1) (fun _ _ _ _ => trivial) fuel listed a w ⟨fun t _ => .inr (.inr (.inl fun _ => trivial)), by intro b hb; simp at hb⟩ (Region.free_spec hi hB.1.1.2) (by simpa using hB.1.2) (.inr ⟨by simpa using hw, rfl⟩) h'

/-- One that reads memory that is written behind it alone. -/
theorem q_r {Q : Act → World → Prop} (i : Nat) (B : List Nat) {o : Oper} {fuel : Nat} {listed : Array Bool} {a : Act} {w : World} (hi : ops[i]? = some o) (hB : (takeT ops listed i && !T.contains i) = true) (hT : holdT ops T listed i B = true) (hw : Region.wanted o (yielded ops a.tmps) = true) (v : Value)
    (hr : ∀ w', Below w.heap.size w w' → (execOp a.eval o).run P w' = .ok (.value v) w')
    (h : ∀ K : Act → Prop, (∀ a, anyQ P ops T r A Q fuel (listed.setIfInBounds i true) a w → K a) → K (a.put o.dst v)) : anyQ P ops T r A Q (fuel + 1) listed a w := by
  simp only [takeT, Bool.and_eq_true] at hB
  have hiT : T.contains i = false := by simpa using hB.2
  obtain ⟨h1, h2⟩ := holdT_spec hT
  exact anyQ_first (S := fun _ => False) (B := B) hi hiT (Region.noSelect_spec hB.1.1.1) (fun _ _ h _ => h) fuel listed a w ⟨fun t ht => (h1 t ht).imp id .inl, h2⟩ (Region.free_spec hi hB.1.1.2) (by simpa using hB.1.2) (.inl ⟨hw, fun w' hb => hr w' (hb.resolve_left (by simp))⟩) (h _ (fun _ h => h))

/-- The only one that may come up, which may make new memory. -/
theorem q_e {Q : Act → World → Prop} (i : Nat) {o : Oper} {fuel : Nat} {listed : Array Bool} {a : Act} {w : World} (hi : ops[i]? = some o) (hB : (Region.ready .any ops listed == [i]) = true) (hT : T.contains i = false)
    (h : ∀ K : Act → World → Prop, (∀ a w, anyQ P ops T r A Q fuel (listed.setIfInBounds i true) a w → K a w) →
      if Region.wanted o (yielded ops a.tmps) then tmoves P o a w (fun v w' => K (a.put o.dst v) w') else K (a.put o.dst undef) w) :
    anyQ P ops T r A Q (fuel + 1) listed a w := by
  have hr : Region.ready .any ops listed = [i] := by simpa using hB
  refine ⟨fun h0 => (by rw [hr] at h0; cases h0), fun j hj => ?_⟩
  rw [hr] at hj
  obtain rfl : j = i := by simpa using hj
  unfold qOp
  simp only [hi, hT]
  exact h _ (fun _ _ h => h)

/-- The only one that may come up: it does what it will, but for 'A'. -/
theorem q_w {Q : Act → World → Prop} (i : Nat) {o : Oper} {fuel : Nat} {listed : Array Bool} {a : Act} {w : World} (hi : ops[i]? = some o) (hB : (Region.ready .any ops listed == [i]) = true) (hT : T.contains i = true)
    (hw : Region.wanted o (yielded ops a.tmps) = true)
    (h : ∀ Q' : Exit → Act → World → Prop, (∀ a w, (i = r → A w) ∧ anyQ P ops T r A Q fuel (listed.setIfInBounds i true) a w → Q' .normal a w) → wpList P ops Q' [o] a w) :
    anyQ P ops T r A Q (fuel + 1) listed a w := by
  have hr : Region.ready .any ops listed = [i] := by simpa using hB
  refine ⟨fun h0 => (by rw [hr] at h0; cases h0), fun j hj => ?_⟩
  rw [hr] at hj
  obtain rfl : j = i := by simpa using hj
  have h2 := h (fun e a w => e = .normal ∧ (j = r → A w) ∧ anyQ P ops T r A Q fuel (listed.setIfInBounds j true) a w) (fun a w hK => ⟨rfl, hK⟩)
  unfold qOp
  simp only [hi, hT, if_true, hw]
  unfold wpList at h2
  simp only [hw, if_true] at h2
  rcases h2 with h2 | ⟨_, _, _, h2, _⟩
  · exact wp_exits (fun _ _ _ h => nomatch h.1) (fun ⟨_, _, h⟩ => nomatch h.1) (Oper.wp_mono (fun a w (h : wpList P ops _ [] a w) => h.2) h2)
  · cases h2

theorem q_end {Q : Act → World → Prop} {listed : Array Bool} {a : Act} {w : World} (hB : (Region.ready .any ops listed == []) = true) (h : Q a w) : anyQ P ops T r A Q 0 listed a w :=
  ⟨by simpa using hB, h⟩
end
end Go.NB
