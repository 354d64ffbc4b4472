/- A loop over an iterator that a round may leave by a return. The records' steps are the library's. No program in sight. -/
import Derived.Test.YtadgokegjmigoaaDoorRng
namespace Go.NB
open Go Go.RowKit

section
variable {w : World} {fn : FuncId} {a : Act} {ps : Array Tmp} {assign body : Code}

/-- The loop's two blocks behind a round that was left by a return. -/
structure Bq (L : Lp w fn a ps assign body) (W : World) : Prop where
  lp : W.heap[w.heap.size + 1]? = some (.loop (L.at_ .done (some .ret)))
  dfd : W.heap[w.heap.size]? = some (.deferred (some []))
theorem Bq.lt {L : Lp w fn a ps assign body} {W : World} (h : Bq L W) : w.heap.size + 1 < W.heap.size := (Array.getElem?_eq_some_iff.1 h.lp).1
theorem Bq.kp {L : Lp w fn a ps assign body} {W W' : World} {F : Nat → Prop} (h : Bq L W) (hk : Kp F W W') (h0 : ¬ F w.heap.size) (h1 : ¬ F (w.heap.size + 1)) : Bq L W' :=
  ⟨(hk.block _ h.lt h1).trans h.lp, (hk.block _ (by have := h.lt; omega) h0).trans h.dfd⟩
theorem Bq.below {L : Lp w fn a ps assign body} {W W' : World} (h : Bq L W) (hb : Below W.heap.size W W') : Bq L W' := h.kp (F := fun _ => False) (Kp.of_below hb) (fun h => h) (fun h => h)
theorem Bk.quit {L : Lp w fn a ps assign body} {s : LoopState} {W : World} (h : Bk L s W) : Bq L (W.putObj (w.heap.size + 1) (.loop (L.at_ .done (some .ret)))) :=
  ⟨World.putObj_heap_same h.lt, (World.putObj_heap_other (by omega)).trans h.dfd⟩

variable {P : Program} {F : Fence} {m : Nat}

/-- One round that goes on, or is left by a return. -/
theorem yield_quit (L : Lp w fn a ps assign body) (hfn : F.fn fn) {vs : Array Value} (hs : vs.size = ps.size) {W : World} (hB : Bk L .ready W) {R Rx : World → Prop}
    (h : assign.wpIn (F.inRound (w.heap.size + 1)) m P (Exit.then (fun a₁ W₁ => Bk L .ready W₁ ∧
      body.wpIn (F.inRound (w.heap.size + 1)) m P (fun e _ W₃ => match e with
        | .normal => Bk L .busy W₃ ∧ R (W₃.putObj (w.heap.size + 1) (.loop (L.at_ .ready none)))
        | .ret => Bk L .busy W₃ ∧ Rx (W₃.putObj (w.heap.size + 1) (.loop (L.at_ .done (some .ret))))
        | _ => False) a₁ (W₁.putObj (w.heap.size + 1) (.loop (L.at_ .busy none)))) (fun _ _ _ => False)) { tmps := (ps.zip vs).foldl (fun t (p, v) => t.setIfInBounds p v) a.tmps, defers := [] } W) :
    YieldAt F m P (w.heap.size + 1) vs W fun e W' => (e = .returned (.bool true) ∧ Bk L .ready W' ∧ R W') ∨ (e = .returned (.bool false) ∧ Bq L W' ∧ Rx W') := by
  have hy := run_yield (P := P) (args := vs) hB.lp (by rw [L.is]; exact hs)
  rw [L.is] at hy
  refine ⟨fn, _, assign, body, hy, roundIn_of_wpIn hfn (wpIn_mono h ?_)⟩
  rintro e a₁ W₁ hp
  cases e with
  | normal =>
    obtain ⟨hB1, hb⟩ := hp
    have hbr := run_beginRound (P := P) hB1.lp (by rw [L.is])
    rw [show ({ L.at_ .ready none with state := .busy } : Loop) = L.at_ .busy none by rw [L.is, L.is]] at hbr
    refine ⟨_, hbr, wpIn_mono hb ?_⟩
    rintro e a₃ W₃ hq
    cases e with
    | normal =>
      obtain ⟨hB3, hR⟩ := hq
      have her := run_endRound (P := P) none hB3.lp
      rw [show ({ L.at_ .busy none with state := if (none : Option Code).isNone then .ready else .done, pending := none } : Loop) = L.at_ .ready none by rw [L.is, L.is]; rfl] at her
      exact ⟨_, _, her, .inl ⟨rfl, hB3.turn _, hR⟩⟩
    | ret =>
      obtain ⟨hB3, hR⟩ := hq
      have her := run_endRound (P := P) (some .ret) hB3.lp
      rw [show ({ L.at_ .busy none with state := if (some Code.ret).isNone then .ready else .done, pending := some .ret } : Loop) = L.at_ .done (some .ret) by rw [L.is, L.is]; rfl] at her
      exact ⟨_, _, her, .inr ⟨rfl, hB3.quit, hR⟩⟩
    | exit id => exact hq.elim
    | goto t => exact hq.elim
    | panic ch => exact hq.elim
    | outgrown => exact hq.elim
  | ret => exact hp.elim
  | exit id => exact hp.elim
  | goto t => exact hp.elim
  | panic ch => exact hp.elim
  | outgrown => exact hp.elim
end

/-- The statement. -/
theorem range_quit {P : Program} {F : Fence} {n : Nat} {w : World} {a : Act} {ps : Array Tmp} {assign body : Code} {g : Operand} {Q : Exit → Act → World → Prop}
    (hro : F.round = none) (h1 : 1 ≤ n) {gf : Nat} {lb : Array Value} (hg : a.eval g = .func (.func gf) #[] lb) (hFg : F.fn gf) (eg : ∀ args w, (callFunc gf args).run P w = .ok (.enter gf args) w)
    (T Tx : World → Prop)
    (hit : ∀ (fn : FuncId), F.fn fn → ∀ (L : Lp w fn a ps assign body) (W1 : World), Bk L .ready W1 → Below w.heap.size w W1 → W1.heap.size = w.heap.size + 2 →
      CallsIn F (n - 1) P gf (#[.func (.yield (w.heap.size + 1)) #[] #[]] ++ lb) W1 fun e W' => (∃ v, e = .returned v) ∧ ((Bk L .ready W' ∧ T W') ∨ (Bq L W' ∧ Tx W')))
    (hdone : ∀ (W' : World) (o : Obj), T W' → w.heap.size + 1 < W'.heap.size → W'.heap[w.heap.size]? = some (.deferred (some [])) →
      Q .normal { a with defers := { target := .collected w.heap.size, args := #[] } :: a.defers } (W'.putObj (w.heap.size + 1) o))
    (hstop : ∀ (W' : World) (o : Obj), Tx W' → w.heap.size + 1 < W'.heap.size → W'.heap[w.heap.size]? = some (.deferred (some [])) →
      Code.ret.wpIn F n P Q { a with defers := { target := .collected w.heap.size, args := #[] } :: a.defers } (W'.putObj (w.heap.size + 1) o)) :
    (Code.rangeFunc g ps assign body).wpIn F n P Q a w := by
  refine wpIn_rangeFunc fun fn hfn => ?_
  rw [hro]
  let L : Lp w fn a ps assign body := ⟨fun s p => { state := s, pending := p, fn := fn, tmps := a.tmps, params := ps, assign := assign, body := body, defers := w.heap.size }, fun _ _ => rfl⟩
  have hL1 : ((w.alloc (.deferred (some []))).alloc (.loop (L.at_ .ready none))).heap[w.heap.size + 1]? = some (.loop (L.at_ .ready none)) := by
    have := World.alloc_heap_new (w.alloc (.deferred (some []))) (.loop (L.at_ .ready none))
    rwa [World.size_alloc] at this
  have hD1 : ((w.alloc (.deferred (some []))).alloc (.loop (L.at_ .ready none))).heap[w.heap.size]? = some (.deferred (some [])) :=
    (Below.heap_alloc _ _ _ (by simp)).trans (World.alloc_heap_new w _)
  obtain ⟨W1, hW1⟩ : ∃ W1, (w.alloc (.deferred (some []))).alloc (.loop (L.at_ .ready none)) = W1 := ⟨_, rfl⟩
  have hb1 : Below w.heap.size w W1 := by rw [← hW1]; exact ((Below.refl _ w).alloc (Nat.le_refl _) _).alloc (by simp) _
  have hs1 : W1.heap.size = w.heap.size + 2 := by rw [← hW1]; simp
  rw [hW1] at hL1 hD1
  refine ⟨w.heap.size + 1, [{ target := .collected w.heap.size, args := #[] }], W1, { target := .fn (.func gf) lb, args := #[.func (.yield (w.heap.size + 1)) #[] #[]] }, W1, gf, #[.func (.yield (w.heap.size + 1)) #[] #[]] ++ lb, W1, by rw [← hW1]; exact run_enterLoop_outer fn a.tmps ps assign body, ?_, ?_, ?_, fun _ => h1, ?_⟩
  · simp only [resolve, hg]
    simp [go_sem]
  · intro f' hf'
    simp [Target.leads] at hf'
    subst hf'
    exact hFg
  · simp [invoke, go_sem, eg]
  · refine (hit fn hfn L W1 ⟨hL1, hD1⟩ hb1 hs1).mono ?_
    rintro e W' ⟨⟨v, rfl⟩, (⟨hB, hT⟩ | ⟨hB, hT⟩)⟩
    · have hel := run_endLoop (P := P) hB.lp (by rw [L.is]; simp)
      rw [show (L.at_ .ready none).pending = none from rfl] at hel
      exact ⟨none, _, hel, hdone W' _ hT hB.lt hB.dfd⟩
    · have hel := run_endLoop (P := P) hB.lp (by rw [L.is]; simp)
      rw [show (L.at_ .done (some .ret)).pending = some .ret from rfl] at hel
      exact ⟨some .ret, _, hel, hstop W' _ hT hB.lt hB.dfd⟩
end Go.NB
