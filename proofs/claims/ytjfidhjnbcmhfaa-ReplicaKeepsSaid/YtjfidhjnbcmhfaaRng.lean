/- A loop over an iterator whose rounds all go on, where the iterator knows more of memory than the value it hands over. The records' steps are the library's. No program in sight. -/
import Derived.Test.YtjfidhjnbcmhfaaKp
import Derived.RangeFuncNested
import Derived.RangeFuncBound
import Derived.RangeFuncCalls
import Derived.RangeFuncLeaves
import Derived.OwnWalkIn
import Derived.Shelf.Abstract
import Derived.Shelf.RegionOpen
import Derived.WalkKit
import Derived.TacticsInMore
import Derived.LoopNIn
import Derived.LoopIn
namespace Go.NB
open Go Go.RowKit

/-- The record of such a loop, begun in world 'w'. -/
structure Lp (w : World) (fn : FuncId) (a : Act) (ps : Array Tmp) (assign body : Code) where
  at_ : LoopState → Option Code → Loop
  is : ∀ s p, at_ s p = { state := s, pending := p, fn := fn, tmps := a.tmps, params := ps, assign := assign, body := body, defers := w.heap.size }

section
variable {w : World} {fn : FuncId} {a : Act} {ps : Array Tmp} {assign body : Code}

/-- The two blocks of the loop lie as they should. -/
structure Bk (L : Lp w fn a ps assign body) (s : LoopState) (W : World) : Prop where
  lp : W.heap[w.heap.size + 1]? = some (.loop (L.at_ s none))
  dfd : W.heap[w.heap.size]? = some (.deferred (some []))

theorem Bk.lt {L : Lp w fn a ps assign body} {s : LoopState} {W : World} (h : Bk L s W) : w.heap.size + 1 < W.heap.size := (Array.getElem?_eq_some_iff.1 h.lp).1
theorem Bk.kp {L : Lp w fn a ps assign body} {s : LoopState} {W W' : World} {F : Nat → Prop} (h : Bk L s W) (hk : Kp F W W') (h0 : ¬ F w.heap.size) (h1 : ¬ F (w.heap.size + 1)) : Bk L s W' :=
  ⟨(hk.block _ h.lt h1).trans h.lp, (hk.block _ (by have := h.lt; omega) h0).trans h.dfd⟩
theorem Bk.below {L : Lp w fn a ps assign body} {s : LoopState} {W W' : World} (h : Bk L s W) (hb : Below W.heap.size W W') : Bk L s W' := h.kp (F := fun _ => False) (Kp.of_below hb) (fun h => h) (fun h => h)
theorem Bk.turn {L : Lp w fn a ps assign body} {s : LoopState} {W : World} (h : Bk L s W) (s' : LoopState) : Bk L s' (W.putObj (w.heap.size + 1) (.loop (L.at_ s' none))) :=
  ⟨World.putObj_heap_same h.lt, (World.putObj_heap_other (by omega)).trans h.dfd⟩
theorem kp_put (W : World) (l : Nat) (o : Obj) : Kp (fun k => k = l) W (W.putObj l o) :=
  ⟨rfl, rfl, rfl, by simp, fun k _ hk => World.putObj_heap_other hk⟩

variable {P : Program} {F : Fence} {m : Nat}

/-- One round: the assignment, the body. -/
theorem yield_told (L : Lp w fn a ps assign body) (hfn : F.fn fn) {vs : Array Value} (hs : vs.size = ps.size) {W : World} (hB : Bk L .ready W) {R : World → Prop}
    (h : assign.wpIn (F.inRound (w.heap.size + 1)) m P (Exit.then (fun a₁ W₁ => Bk L .ready W₁ ∧
      body.wpIn (F.inRound (w.heap.size + 1)) m P (fun e _ W₃ => match e with
        | .normal => Bk L .busy W₃ ∧ R (W₃.putObj (w.heap.size + 1) (.loop (L.at_ .ready none)))
        | _ => False) a₁ (W₁.putObj (w.heap.size + 1) (.loop (L.at_ .busy none)))) (fun _ _ _ => False)) { tmps := (ps.zip vs).foldl (fun t (p, v) => t.setIfInBounds p v) a.tmps, defers := [] } W) :
    YieldAt F m P (w.heap.size + 1) vs W fun e W' => e = .returned (.bool true) ∧ Bk L .ready W' ∧ R W' := by
  have hy := run_yield (P := P) (args := vs) hB.lp (by rw [L.is]; exact hs)
  rw [L.is] at hy
  refine ⟨fn, _, assign, body, hy, roundIn_of_wpIn hfn (wpIn_mono h ?_)⟩
  rintro e a₁ W₁ hp
  cases e with
  | normal =>
    obtain ⟨hB1, hb⟩ := hp
    have hbr := run_beginRound (P := P) hB1.lp (by rw [L.is])
    rw [show ({ L.at_ .ready none with state := .busy } : Loop) = L.at_ .busy none by rw [L.is, L.is]] at hbr
    refine ⟨_, hbr, wpIn_mono hb ?_⟩
    rintro e a₃ W₃ hq
    cases e with
    | normal =>
      obtain ⟨hB3, hR⟩ := hq
      have her := run_endRound (P := P) none hB3.lp
      rw [show ({ L.at_ .busy none with state := if (none : Option Code).isNone then .ready else .done, pending := none } : Loop) = L.at_ .ready none by rw [L.is, L.is]; rfl] at her
      exact ⟨_, _, her, rfl, hB3.turn _, hR⟩
    | ret => exact hq.elim
    | exit id => exact hq.elim
    | goto t => exact hq.elim
    | panic ch => exact hq.elim
    | outgrown => exact hq.elim
  | ret => exact hp.elim
  | exit id => exact hp.elim
  | goto t => exact hp.elim
  | panic ch => exact hp.elim
  | outgrown => exact hp.elim
end

/-- The statement. -/
theorem range_told {P : Program} {F : Fence} {n : Nat} {w : World} {a : Act} {ps : Array Tmp} {assign body : Code} {g : Operand} {Q : Exit → Act → World → Prop}
    (hro : F.round = none) (h1 : 1 ≤ n) {gf : Nat} {lb : Array Value} (hg : a.eval g = .func (.func gf) #[] lb) (hFg : F.fn gf) (eg : ∀ args w, (callFunc gf args).run P w = .ok (.enter gf args) w)
    (T : World → Prop)
    (hit : ∀ (fn : FuncId), F.fn fn → ∀ (L : Lp w fn a ps assign body) (W1 : World), Bk L .ready W1 → Below w.heap.size w W1 → W1.heap.size = w.heap.size + 2 →
      CallsIn F (n - 1) P gf (#[.func (.yield (w.heap.size + 1)) #[] #[]] ++ lb) W1 fun e W' => (∃ v, e = .returned v) ∧ Bk L .ready W' ∧ T W')
    (hdone : ∀ (W' : World) (o : Obj), T W' → w.heap.size + 1 < W'.heap.size → W'.heap[w.heap.size]? = some (.deferred (some [])) →
      Q .normal { a with defers := { target := .collected w.heap.size, args := #[] } :: a.defers } (W'.putObj (w.heap.size + 1) o)) :
    (Code.rangeFunc g ps assign body).wpIn F n P Q a w := by
  refine wpIn_rangeFunc fun fn hfn => ?_
  rw [hro]
  let L : Lp w fn a ps assign body := ⟨fun s p => { state := s, pending := p, fn := fn, tmps := a.tmps, params := ps, assign := assign, body := body, defers := w.heap.size }, fun _ _ => rfl⟩
  have hL1 : ((w.alloc (.deferred (some []))).alloc (.loop (L.at_ .ready none))).heap[w.heap.size + 1]? = some (.loop (L.at_ .ready none)) := by
    have := World.alloc_heap_new (w.alloc (.deferred (some []))) (.loop (L.at_ .ready none))
    rwa [World.size_alloc] at this
  have hD1 : ((w.alloc (.deferred (some []))).alloc (.loop (L.at_ .ready none))).heap[w.heap.size]? = some (.deferred (some [])) :=
    (Below.heap_alloc _ _ _ (by simp)).trans (World.alloc_heap_new w _)
  obtain ⟨W1, hW1⟩ : ∃ W1, (w.alloc (.deferred (some []))).alloc (.loop (L.at_ .ready none)) = W1 := ⟨_, rfl⟩
  have hb1 : Below w.heap.size w W1 := by rw [← hW1]; exact ((Below.refl _ w).alloc (Nat.le_refl _) _).alloc (by simp) _
  have hs1 : W1.heap.size = w.heap.size + 2 := by rw [← hW1]; simp
  rw [hW1] at hL1 hD1
  refine ⟨w.heap.size + 1, [{ target := .collected w.heap.size, args := #[] }], W1, { target := .fn (.func gf) lb, args := #[.func (.yield (w.heap.size + 1)) #[] #[]] }, W1, gf, #[.func (.yield (w.heap.size + 1)) #[] #[]] ++ lb, W1, by rw [← hW1]; exact run_enterLoop_outer fn a.tmps ps assign body, ?_, ?_, ?_, fun _ => h1, ?_⟩
  · simp only [resolve, hg]
    simp [go_sem]
  · intro f' hf'
    simp [Target.leads] at hf'
    subst hf'
    exact hFg
  · simp [invoke, go_sem, eg]
  · refine (hit fn hfn L W1 ⟨hL1, hD1⟩ hb1 hs1).mono ?_
    rintro e W' ⟨⟨v, rfl⟩, hB, hT⟩
    have hel := run_endLoop (P := P) hB.lp (by rw [L.is]; simp)
    rw [show (L.at_ .ready none).pending = none from rfl] at hel
    exact ⟨none, _, hel, hdone W' _ hT hB.lt hB.dfd⟩

/-- 'append' in a fence, onto a row of the call's own; and where the new row lies. -/
theorem wpListIn_append_at {F : Fence} {m0 : Nat} {P : Program} {w : World} {ops : Array Oper} {rest : List Oper} {o : Oper} {a : Act} {Q : Exit → Act → World → Prop} (hg : o.guard = none) (s x : Operand) (t : TypeId)
    (ho : o.op = Op.call { callee := Callee.builtin Builtin.append, args := #[s, x], argTypes := #[t, t] })
    (base : Nat) {e : TypeId} {z : Value} {size bytes : Nat} (T : SlT P t e z size bytes)
    (v : Value) (n : Nat) (xs : List Value) (hs : a.eval s = v) (hown : w.ownsRow base e size v n xs)
    (ad : Addr) (m c : Nat) (news : List Value) (hx : a.eval x = .slice (some ad) m c) (hr : Rd size w (some ad) m c news) (hm : 0 < m) (h1 : ∀ u ∈ news, u.oneCell' = true)
    (hbytes : (n + m) * bytes ≤ 140737488355328) (h63 : n + m ≤ maxLen) (hbase : base ≤ w.heap.size)
    (h : ∀ v' w', w'.ownsRow base e size v' (n + m) (xs ++ news) → w.grownBy w' v.ownBlock → (∀ k, v'.ownBlock = some k → v.ownBlock = some k ∨ w.heap.size ≤ k) → wpListIn F m0 P ops Q rest (a.put o.dst v') w') : wpListIn F m0 P ops Q (o :: rest) a w := by
  obtain ⟨i, hi, hz, hsz, hby⟩ := T.hi
  have hnews : ∀ j u, news[j]? = some u → w.cell? (ad.add j) = some u := by
    intro j u hu
    obtain ⟨b, o', e, hc⟩ := hr.pos hm
    cases e
    rw [addr_add]
    exact hc j u hu
  refine wpListIn_plain hg fun K hK' => ?_
  obtain ⟨v', w', hrun, h2, h3, _⟩ := run_append_own (P := P) w base t o.type e i z size bytes T.ht hi hz hsz hby T.hz T.hp v n xs hown ad m c news hr.len hnews h1 h63 hbytes hbase
  have h4 := append_block base t o.type e i z size bytes T.ht hi hz hsz hby v n xs hown ad m c news hr.len hnews h1 h63 hbytes hrun
  unfold Oper.wpIn
  refine ⟨?_, ?_⟩
  · simp [Oper.about, ho, resolve, Target.leads, Sem.run_pure]
  · rw [Oper.semAt_plain F _ _ (by rw [ho]; intro c hc'; cases hc')]
    simp [execOp, ho, resolve, invoke, builtin, hs, hx, hrun, Result.andThen]
    exact hK' _ _ (h v' w' h2 h3 h4)
end Go.NB
