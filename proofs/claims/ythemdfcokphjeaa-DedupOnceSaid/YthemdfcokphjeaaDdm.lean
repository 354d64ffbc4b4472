/- A map keyed by a client and a number: what it holds, as a list; its laws at the operations. No program in sight. -/
import Derived.Test.YthemdfcokphjeaaNum
import Derived.Maps.RangeWalk
import Derived.ChangeKeysEq
import Derived.DeepKeys4
import Derived.OpenShut
namespace Go.NB
open Go Go.RowKit
open Go.Maps (Keyed)

/-! ### The list -/

abbrev Ent := Nat × Nat × Int
def dhit (c s : Nat) (e : Ent) : Bool := e.1 == c && e.2.1 == s
def dknown (l : List Ent) (c s : Nat) : Bool := l.any (dhit c s)
def dat (l : List Ent) (c s : Nat) : Int := ((l.find? (dhit c s)).map (·.2.2)).getD 0
def dlstep (c : Nat) (p : Nat × Bool) (e : Ent) : Nat × Bool := if e.1 = c then (max p.1 e.2.1, true) else p
def dlast (l : List Ent) (c : Nat) : Nat × Bool := l.foldl (dlstep c) (0, false)

theorem dhit_iff (c s : Nat) (e : Ent) : dhit c s e = true ↔ e.1 = c ∧ e.2.1 = s := by simp [dhit]
theorem dknown_snoc (l : List Ent) (e : Ent) (c s : Nat) : dknown (l ++ [e]) c s = (dknown l c s || dhit c s e) := by simp [dknown]
theorem dat_snoc_old (l : List Ent) (e : Ent) (c s : Nat) (h : dknown l c s = true) : dat (l ++ [e]) c s = dat l c s := by
  unfold dat
  rw [List.find?_append]
  cases hf : l.find? (dhit c s) with
  | some x => simp
  | none =>
    exfalso
    obtain ⟨x, hx, hh⟩ := List.any_eq_true.1 h
    exact absurd hh (by simpa using List.find?_eq_none.1 hf x hx)
theorem find_none (l : List Ent) (c s : Nat) (h : dknown l c s = false) : l.find? (dhit c s) = none := by
  rw [List.find?_eq_none]
  intro x hx hh
  rw [show dknown l c s = true from List.any_eq_true.2 ⟨x, hx, hh⟩] at h
  cases h
theorem dat_unknown (l : List Ent) (c s : Nat) (h : dknown l c s = false) : dat l c s = 0 := by
  unfold dat; rw [find_none l c s h]; rfl
theorem dat_snoc_new (l : List Ent) (e : Ent) (c s : Nat) (h : dknown l c s = false) (he : dhit c s e = true) : dat (l ++ [e]) c s = e.2.2 := by
  unfold dat; rw [List.find?_append, find_none l c s h]; simp [he]

/-- What is said of a client's greatest number. -/
structure Lst (l : List Ent) (c : Nat) (p : Nat × Bool) : Prop where
  up : ∀ e ∈ l, e.1 = c → e.2.1 ≤ p.1 ∧ p.2 = true
  no : p.2 = false → p.1 = 0
  is : p.2 = true → ∃ e ∈ l, e.1 = c ∧ e.2.1 = p.1
theorem dlast_snoc (l : List Ent) (e : Ent) (c : Nat) : dlast (l ++ [e]) c = dlstep c (dlast l c) e := by simp [dlast, List.foldl_append]
theorem dlast_is (l : List Ent) (c : Nat) : Lst l c (dlast l c) := by
  have h0 : Lst [] c (dlast [] c) := ⟨by simp, (fun _ => rfl), (fun h => by simp [dlast] at h)⟩
  refine snoc_ind (p := fun l => Lst l c (dlast l c)) h0 (fun l e ih => ?_) l
  rw [dlast_snoc]
  unfold dlstep
  obtain ⟨i1, i2, i3⟩ := ih
  by_cases h : e.1 = c
  · rw [if_pos h]
    refine ⟨fun x hx hc => ?_, (fun h => by cases h), fun _ => ?_⟩
    · rcases List.mem_append.1 hx with hx | hx
      · exact ⟨Nat.le_trans (i1 x hx hc).1 (Nat.le_max_left _ _), rfl⟩
      · obtain rfl : x = e := by simpa using hx
        exact ⟨Nat.le_max_right _ _, rfl⟩
    · rcases Nat.le_total (dlast l c).1 e.2.1 with hm | hm
      · exact ⟨e, by simp, h, by rw [Nat.max_eq_right hm]⟩
      · cases hb : (dlast l c).2 with
        | false =>
          have := i2 hb
          exact ⟨e, by simp, h, by simp; omega⟩
        | true =>
          obtain ⟨x, hx, hc, hv⟩ := i3 hb
          exact ⟨x, by simp [hx], hc, by rw [Nat.max_eq_left hm]; exact hv⟩
  · rw [if_neg h]
    refine ⟨fun x hx hc => ?_, i2, fun hb => ?_⟩
    · rcases List.mem_append.1 hx with hx | hx
      · exact i1 x hx hc
      · obtain rfl : x = e := by simpa using hx
        exact absurd hc h
    · obtain ⟨x, hx, hc, hv⟩ := i3 hb
      exact ⟨x, by simp [hx], hc, hv⟩
theorem Lst.eq {l : List Ent} {c : Nat} {p q : Nat × Bool} (h : Lst l c p) (k : Lst l c q) : p = q := by
  obtain ⟨p1, p2⟩ := p
  obtain ⟨q1, q2⟩ := q
  obtain ⟨a1, a2, a3⟩ := h
  obtain ⟨b1, b2, b3⟩ := k
  simp only at *
  cases p2 with
  | false =>
    cases q2 with
    | false => rw [a2 rfl, b2 rfl]
    | true =>
      obtain ⟨e, he, hc, _⟩ := b3 rfl
      exact absurd (a1 e he hc).2 (by simp)
  | true =>
    obtain ⟨e, he, hc, hv⟩ := a3 rfl
    obtain ⟨h1, h2⟩ := b1 e he hc
    subst h2
    obtain ⟨e', he', hc', hv'⟩ := b3 rfl
    have h3 := (a1 e' he' hc').1
    have : p1 = q1 := by omega
    rw [this]

/-! ### The keys -/

def klw (c s : Nat) : Lit := .string (keyBytes [.int .u64 (c : Int), .int .u64 (s : Int)])
def kvw (c s : Nat) : Value := .agg #[.int .u64 (c : Int), .int .u64 (s : Int)]
abbrev B64 (x : Nat) : Prop := x < 18446744073709551616

/-- What the walk needs of the key's type 'K' and the element's type 'E'. -/
structure KeyW (P : Program) (K E : TypeId) : Prop where
  law : Keyed P K
  of : ∀ c s, B64 c → B64 s → keyOf P K (kvw c s) = some (klw c s)
  inv : ∀ v l, keyOf P K v = some l → ∃ c s, B64 c ∧ B64 s ∧ v = kvw c s ∧ l = klw c s
  he : P.underlying E = some (.int .i64)
  hz : ∀ w, (zeroValue E).run P w = .ok (.int .i64 0) w

section
variable {P : Program} {K E : TypeId}
theorem KeyW.inj (W : KeyW P K E) {c s c' s' : Nat} (hc : B64 c) (hs : B64 s) (hc' : B64 c') (hs' : B64 s') (h : klw c s = klw c' s') : c = c' ∧ s = s' := by
  have h1 := W.of c s hc hs
  have h2 := W.of c' s' hc' hs'
  rw [h] at h1
  have := W.law.inj h1 h2
  unfold kvw at this
  injection this with h3
  simp only [Array.mk.injEq, List.cons.injEq, Value.int.injEq, true_and, and_true] at h3
  omega
theorem KeyW.isKey (W : KeyW P K E) {c s : Nat} (hc : B64 c) (hs : B64 s) : WideAt.IsKeyLit (klw c s) := W.law.key (W.of c s hc hs)

theorem u64_wf {x : Nat} (h : B64 x) : (Lit.int .u64 (x : Int)).wf = true := by
  exact WalkArith.wf_u64 (by unfold B64 at h; omega)

theorem lit_u64 {d : Nat} {t : TypeId} {v : Value} {l : List Lit} (hu : P.underlying t = some (.int .u64)) (h : P.keyLits (d + 1) t [v] = some l) : ∃ x : Nat, B64 x ∧ v = .int .u64 (x : Int) ∧ l = [.int .u64 (x : Int)] := by
  obtain ⟨m, e, rfl⟩ := keyLits_int' hu h
  obtain rfl : v = .int .u64 m := by simpa using e
  simp [Program.keyLits, hu] at h
  have hw := h
  have hb := bounds_u64 hw
  obtain ⟨x, rfl⟩ := Int.eq_ofNat_of_zero_le hb.1
  exact ⟨x, by unfold B64; omega, rfl, rfl⟩

/-- A key's type that is a struct of two uint64s. -/
theorem keyW_mk {n : Nat} {f0 f1 : Field} (laid : laidOutB P = true) (hsz : P.types.size = n + 1) (hrow : K < P.types.size) (hu : P.underlying K = some (.struct #[f0, f1])) (hkt : P.keyType K = true) (hk2 : P.keyTypeAt 2 K = true) (hc : P.cellsOf K = 2) (hn0 : (f0.name != "_") = true) (hn1 : (f1.name != "_") = true)
    (o0 : f0.offset = 0) (o1 : f1.offset = 1) (t0 : P.underlying f0.type = some (.int .u64)) (t1 : P.underlying f1.type = some (.int .u64)) (c0 : P.cellsOf f0.type = 1) (c1 : P.cellsOf f1.type = 1)
    (he : P.underlying E = some (.int .i64)) (hz : ∀ w, (zeroValue E).run P w = .ok (.int .i64 0) w) : KeyW P K E where
  law := Keyed.of_law (deep_law_laid laid (m := 2) (by omega) hrow hk2 (by rw [hu]))
  he := he
  hz := hz
  of c s h1 h2 := by
    have w1 := u64_wf h1
    have w2 := u64_wf h2
    simp [keyOf, hu, hkt, kvw, Value.formed, hc, hsz, Value.cells, Program.keyLits, hn0, hn1, o0, o1, c0, c1, t0, t1, w1, w2, klw]
  inv v l h := by
    cases v <;> simp [keyOf, hu, hkt, Value.formed, hc] at h
    rename_i xs
    obtain ⟨hx, ls, hl, rfl⟩ := h
    obtain ⟨xl⟩ := xs
    match xl, hx with
    | [v0, v1], _ =>
      have h0 : P.keyLits (n + 1 + 1) K [v0, v1] = (do let a ← P.keyLits (n + 1) f0.type [v0]; let b ← P.keyLits (n + 1) f1.type [v1]; some [a, b].flatten) := by
        conv => lhs; unfold Program.keyLits
        simp [hu, hc, hn0, hn1, o0, o1, c0, c1]
        cases P.keyLits (n + 1) f0.type [v0] with
        | none => rfl
        | some a =>
          cases P.keyLits (n + 1) f1.type [v1] with
          | none => rfl
          | some b => simp
      simp only [Value.cells, hsz] at hl
      rw [h0] at hl
      cases ha : P.keyLits (n + 1) f0.type [v0] with
      | none => rw [ha] at hl; cases hl
      | some a =>
        cases hb : P.keyLits (n + 1) f1.type [v1] with
        | none => rw [ha, hb] at hl; cases hl
        | some b =>
          rw [ha, hb] at hl
          obtain ⟨x, hx, rfl, rfl⟩ := lit_u64 t0 ha
          obtain ⟨y, hy, rfl, rfl⟩ := lit_u64 t1 hb
          cases hl
          exact ⟨x, y, hx, hy, rfl, rfl⟩
end

/-! ### The map -/

/-- Block 'b' is a map that holds the list's entries. -/
def MapIs (P : Program) (K E : TypeId) (w : World) (b : Nat) (l : List Ent) : Prop :=
  ∃ D : DataW Unit, w.ownsMap P K (plainElem P E) b l.length D ∧ (∀ c s, B64 c → B64 s → Maps.has D (klw c s) = dknown l c s ∧ D.atKey (klw c s) (.lit (.int .i64 0)) = .lit (.int .i64 (dat l c s))) ∧ Maps.size D = l.length ∧ (∀ e ∈ l, B64 e.1 ∧ B64 e.2.1)

section
variable {P : Program} {K E : TypeId} {w w' : World} {b : Nat} {l : List Ent}
theorem MapIs.keep (h : MapIs P K E w b l) (hb : w'.heap[b]? = w.heap[b]?) : MapIs P K E w' b l := by
  obtain ⟨D, ⟨es, clock, hh, r⟩, r2⟩ := h
  exact ⟨D, ⟨es, clock, hb.trans hh, r⟩, r2⟩
theorem MapIs.lt (h : MapIs P K E w b l) : b < w.heap.size := by
  obtain ⟨D, ⟨es, clock, hh, r⟩, r2⟩ := h
  exact (Array.getElem?_eq_some_iff.1 hh).1
theorem mapIs_new (w : World) (l : List Ent) (hl : l = []) : MapIs P K E (w.alloc (.map #[] 0)) w.heap.size l := by
  subst hl
  exact ⟨.map [], World.ownsMap_made _ _ _ _, fun c s _ _ => ⟨rfl, by simp [dat, DataW.atKey]⟩, rfl, by simp⟩

variable {ops : Array Oper} {rest : List Oper} {o : Oper} {a : Act} {Q : Exit → Act → World → Prop}
theorem run_look {t : TypeId} (W : KeyW P K E) (ht : P.underlying t = some (.map K E)) (h : MapIs P K E w b l) {c s : Nat} (hc : B64 c) (hs : B64 s) :
    (Instr.lookup t (.map (some b)) (kvw c s) true).run P w = .ok (.tuple #[.int .i64 (dat l c s), .bool (dknown l c s)]) w := by
  obtain ⟨D, hD, hr, _⟩ := h
  obtain ⟨v, ps, hrun, hv⟩ := hD.look_ok W.law ht (W.hz w) (zd := .lit (.int .i64 0)) (zp := []) (plainElem_int W.he (by decide)) (W.of c s hc hs)
  obtain ⟨x, rfl, hx, _⟩ := plainElem_int_inv W.he hv
  obtain ⟨h1, h2⟩ := hr c s hc hs
  rw [h1] at hrun
  rw [hrun]
  have h3 : D.atKey (klw c s) (.lit (.int .i64 0)) = .lit (.int .i64 x) := congrArg Prod.fst hx
  rw [h2] at h3
  injection h3 with h3
  injection h3 with _ h3
  rw [h3]
theorem run_op_look {t : TypeId} (W : KeyW P K E) (ht : P.underlying t = some (.map K E)) {m x : Operand} (ho : o.op = .lookup t m x true) (hm : a.eval m = .map (some b)) {c s : Nat} (hx : a.eval x = kvw c s) (h : MapIs P K E w b l) (hc : B64 c) (hs : B64 s) :
    (execOp a.eval o).run P w = .ok (.value (.tuple #[.int .i64 (dat l c s), .bool (dknown l c s)])) w := by
  unfold execOp
  simp only [ho, hm, hx, Sem.run_bind, Sem.run_pure, run_look W ht h hc hs, Result.andThen_ok]
theorem run_len {t ty : TypeId} (ht : P.underlying t = some (.map K E)) (h : MapIs P K E w b l) : (Builtin.len_ #[t] ty #[.map (some b)]).run P w = .ok (.int .i64 (l.length : Int)) w := by
  obtain ⟨D, hD, _, hs, _⟩ := h
  rw [hD.len ht ty, hs]

/-- A store at a key that isn't there. -/
theorem wpList_note (W : KeyW P K E) (hgd : Region.wanted o (yielded ops a.tmps) = true) (m x v : Operand) (t : TypeId) (hop : o.op = Op.mapUpdate t m x v) (ht : P.underlying t = some (.map K E)) (h : MapIs P K E w b l)
    (hm : a.eval m = .map (some b)) {c s : Nat} (hx : a.eval x = kvw c s) {at_ : Int} (hv : a.eval v = .int .i64 at_) (hw : (Lit.int .i64 at_).wf = true) (hc : B64 c) (hs : B64 s) (hk : dknown l c s = false) (hn : l.length < maxLen)
    (hK : ∀ w', MapIs P K E w' b (l ++ [(c, s, at_)]) → w.grownBy w' (some b) → w'.heap.size = w.heap.size → wpList P ops Q rest (a.put o.dst undef) w') : wpList P ops Q (o :: rest) a w := by
  refine wpList_wanted hgd fun K' hK' => ?_
  obtain ⟨D, hD, hr, hsz, hl⟩ := h
  have hT := hD.tidy W.law
  obtain ⟨w', hrun, r1, r2⟩ := hD.store W.law ht hn (W.of c s hc hs) (d := .lit (.int .i64 at_)) (ps := []) (plainElem_int W.he hw)
  unfold Oper.wp
  simp [execOp, hop, hm, hx, hv, hrun, Result.andThen]
  refine hK' _ _ (hK w' ⟨_, by simpa using r1, fun c' s' hc' hs' => ?_, ?_, ?_⟩ r2.grown ?_)
  · rw [dknown_snoc]
    by_cases he : c = c' ∧ s = s'
    · obtain ⟨rfl, rfl⟩ := he
      have hh : dhit c s (c, s, at_) = true := by simp [dhit]
      rw [Maps.has_put_same hT.isMap (W.isKey hc hs), Maps.atKey_put_same hT.isMap (W.isKey hc hs), dat_snoc_new l _ c s hk hh, hh]
      simp
    · have hne : klw c' s' ≠ klw c s := fun e => he (by obtain ⟨h1, h2⟩ := W.inj hc' hs' hc hs e; exact ⟨h1.symm, h2.symm⟩)
      have hh : dhit c' s' (c, s, at_) = false := by simp [dhit]; intro h1 h2; exact he ⟨h1, h2⟩
      obtain ⟨q1, q2⟩ := hr c' s' hc' hs'
      rw [Maps.has_put_other hne, Maps.atKey_put_other hne, q1, q2, hh]
      refine ⟨by simp, ?_⟩
      congr 2
      unfold dat
      rw [List.find?_append]
      simp [hh]
  · have hkf : Maps.has D (klw c s) = false := by rw [(hr c s hc hs).1]; exact hk
    rw [Maps.size_put hT, hkf, hsz]; simp
  · intro e he
    rcases List.mem_append.1 he with he | he
    · exact hl e he
    · obtain rfl : e = (c, s, at_) := by simpa using he
      exact ⟨hc, hs⟩
  · obtain ⟨es, clock, es', clock', _, rfl⟩ := r2
    simp [ChangeMaps.setBlock]

/-! ### Ranging over it -/

/-- A range under way: what is still to come. -/
def RangeIs (P : Program) (K E : TypeId) (w : World) (b r : Nat) (l : List Ent) (left : Nat → Nat → Bool) (cnt : Nat) : Prop :=
  ∃ (D : DataW Unit) (lf : Lit → Bool), w.ranges P K (plainElem P E) b r l.length D lf cnt ∧ (∀ c s, B64 c → B64 s → Maps.has D (klw c s) = dknown l c s ∧ lf (klw c s) = left c s)

theorem RangeIs.left_eq {r : Nat} {left : Nat → Nat → Bool} {cnt : Nat} (h : RangeIs P K E w b r l left cnt) : w.rangeLeft b r = cnt := by
  obtain ⟨D, lf, h, _⟩ := h
  exact h.left_eq
theorem RangeIs.ne {r : Nat} {left : Nat → Nat → Bool} {cnt : Nat} (h : RangeIs P K E w b r l left cnt) : r ≠ b := by
  obtain ⟨D, lf, h, _⟩ := h
  exact h.ne
theorem RangeIs.alloc {r : Nat} {left : Nat → Nat → Bool} {cnt : Nat} (h : RangeIs P K E w b r l left cnt) (o : Obj) : RangeIs P K E (w.alloc o) b r l left cnt := by
  obtain ⟨D, lf, h, q⟩ := h
  exact ⟨D, lf, h.alloc o, q⟩
theorem RangeIs.kept {r : Nat} {left : Nat → Nat → Bool} {cnt : Nat} {row : Option Nat} (h : RangeIs P K E w b r l left cnt) (hg : w.grownBy w' row) (hb' : some b ≠ row) (hr' : some r ≠ row) : RangeIs P K E w' b r l left cnt := by
  obtain ⟨D, lf, h, q⟩ := h
  exact ⟨D, lf, h.kept hg hb' hr', q⟩

theorem wpList_range_is (W : KeyW P K E) (hg : o.guard = none) (m : Operand) (t : TypeId) (hop : o.op = Op.range t m) (ht : P.underlying t = some (.map K E)) (hm : a.eval m = .map (some b)) (h : MapIs P K E w b l)
    (hK : ∀ w', RangeIs P K E w' b w.heap.size l (dknown l) l.length → w.grownBy w' none → w'.heap.size = w.heap.size + 1 → wpList P ops Q rest (a.put o.dst (.pointer (some ⟨w.heap.size, 0, none⟩))) w') :
    wpList P ops Q (o :: rest) a w := by
  obtain ⟨D, hD, hr, hsz, _⟩ := h
  refine wpList_range_own w hg m t hop K E W.law ht _ b _ D hm hD (fun w' h1 h2 h3 => hK w' ⟨D, Maps.has D, by rw [← hsz]; rw [hsz]; exact hsz ▸ h1, fun c s hc hs => ⟨(hr c s hc hs).1, (hr c s hc hs).1⟩⟩ h2 h3)

/-- Less one that has come. -/
def strike (left : Nat → Nat → Bool) (c s c' s' : Nat) : Bool := left c' s' && !(c == c' && s == s')

theorem wpList_next_is (W : KeyW P K E) (hg : o.guard = none) (it : Operand) (hop : o.op = Op.next it false) {r : Nat} {left : Nat → Nat → Bool} {cnt : Nat}
    (hit : a.eval it = .pointer (some ⟨r, 0, none⟩)) (h : RangeIs P K E w b r l left cnt)
    (hDone : (∀ c s, B64 c → B64 s → left c s = false) → wpList P ops Q rest (a.put o.dst (.tuple #[.bool false])) w)
    (hMore : ∀ (c s : Nat) (at_ : Int) (w' : World) (cnt' : Nat), B64 c → B64 s → dknown l c s = true → RangeIs P K E w' b r l (strike left c s) cnt' → cnt' < cnt →
      w.grownBy w' (some r) → w'.heap.size = w.heap.size → (Instr.entry (.pointer (some ⟨r, 0, none⟩))).run P w' = .ok (.tuple #[.agg #[.int .u64 (c : Int), .int .u64 (s : Int)], .int .i64 at_]) w' → wpList P ops Q rest (a.put o.dst (.tuple #[.bool true, .agg #[.int .u64 (c : Int), .int .u64 (s : Int)], .int .i64 at_])) w') :
    wpList P ops Q (o :: rest) a w := by
  obtain ⟨D, lf, hD, hr⟩ := h
  refine wpList_next_ranges (α := Nat × Nat) (β := Int) w hg it hop K W.law (plainElem P E) (fun x => kvw x.1 x.2) (.int .i64)
    (fun key kl hk => by obtain ⟨c, s, _, _, rfl, _⟩ := W.inv key kl hk; exact ⟨(c, s), rfl⟩) (fun v y hv => by obtain ⟨x, rfl, _⟩ := plainElem_int_inv W.he hv; exact ⟨x, rfl⟩)
    b r _ D lf cnt hit hD (fun _ hl => hDone fun c s hc hs => by rw [← (hr c s hc hs).2]; exact hl _) ?_
  intro x at_ kl y w' cnt' hkey hlk hv hat hrg hlt hgr hsz hen
  obtain ⟨c, s, hc, hs, e1, rfl⟩ := W.inv _ _ hkey
  obtain ⟨x1, x2⟩ := x
  unfold kvw at e1
  injection e1 with e1
  simp only [Array.mk.injEq, List.cons.injEq, Value.int.injEq, true_and, and_true] at e1
  obtain rfl : x1 = c := by omega
  obtain rfl : x2 = s := by omega
  refine hMore x1 x2 at_ w' cnt' hc hs ?_ ⟨D, _, hrg, fun c' s' hc' hs' => ⟨(hr c' s' hc' hs').1, ?_⟩⟩ hlt hgr hsz hen
  · rw [← (hr x1 x2 hc hs).1]
    exact Maps.has_true_of_atKey hat
  · rw [(hr c' s' hc' hs').2]
    unfold strike
    congr 2
    by_cases he : x1 = c' ∧ x2 = s'
    · obtain ⟨rfl, rfl⟩ := he
      rw [WideAt.sameKey_self (W.isKey hc hs)]
      simp
    · rw [Maps.sameKey_ne (fun e => he (by obtain ⟨h1, h2⟩ := W.inj hc' hs' hc hs e; exact ⟨h1.symm, h2.symm⟩))]
      symm
      simp only [Bool.and_eq_false_imp, beq_iff_eq, beq_eq_false_iff_ne]
      intro h1 h2
      exact he ⟨h1, h2⟩
end
end Go.NB
