/- A map keyed by a client and a number: what it holds, as a list; its laws at the operations. No program in sight. Dedup's table, walked. Dedup's entries, walked: Put, Get. Entries put and got: plain laws. -/
import Derived.Test.YtjfidhjnbcmhfaaNum
import Derived.Maps.RangeWalk
import Derived.ChangeKeysEq
import Derived.DeepKeys4
import Derived.OpenShut
import Derived.Test.YtjfidhjnbcmhfaaRows
import Derived.Test.YtjfidhjnbcmhfaaNump
import Derived.Test.YtjfidhjnbcmhfaaNumc
import Derived.Test.YtjfidhjnbcmhfaaRw
namespace Go.NB
open Go Go.RowKit
open Go.Maps (Keyed)

/-! ### The list -/

abbrev Ent := Nat × Nat × Int
def dhit (c s : Nat) (e : Ent) : Bool := e.1 == c && e.2.1 == s
def dknown (l : List Ent) (c s : Nat) : Bool := l.any (dhit c s)
def dat (l : List Ent) (c s : Nat) : Int := ((l.find? (dhit c s)).map (·.2.2)).getD 0
def dlstep (c : Nat) (p : Nat × Bool) (e : Ent) : Nat × Bool := if e.1 = c then (max p.1 e.2.1, true) else p
def dlast (l : List Ent) (c : Nat) : Nat × Bool := l.foldl (dlstep c) (0, false)

theorem dhit_iff (c s : Nat) (e : Ent) : dhit c s e = true ↔ e.1 = c ∧ e.2.1 = s := by simp [dhit]
theorem dknown_snoc (l : List Ent) (e : Ent) (c s : Nat) : dknown (l ++ [e]) c s = (dknown l c s || dhit c s e) := by simp [dknown]
theorem dat_snoc_old (l : List Ent) (e : Ent) (c s : Nat) (h : dknown l c s = true) : dat (l ++ [e]) c s = dat l c s := by
  unfold dat
  rw [List.find?_append]
  cases hf : l.find? (dhit c s) with
  | some x => simp
  | none =>
    exfalso
    obtain ⟨x, hx, hh⟩ := List.any_eq_true.1 h
    exact absurd hh (by simpa using List.find?_eq_none.1 hf x hx)
theorem find_none (l : List Ent) (c s : Nat) (h : dknown l c s = false) : l.find? (dhit c s) = none := by
  rw [List.find?_eq_none]
  intro x hx hh
  rw [show dknown l c s = true from List.any_eq_true.2 ⟨x, hx, hh⟩] at h
  cases h
theorem dat_unknown (l : List Ent) (c s : Nat) (h : dknown l c s = false) : dat l c s = 0 := by
  unfold dat; rw [find_none l c s h]; rfl
theorem dat_snoc_new (l : List Ent) (e : Ent) (c s : Nat) (h : dknown l c s = false) (he : dhit c s e = true) : dat (l ++ [e]) c s = e.2.2 := by
  unfold dat; rw [List.find?_append, find_none l c s h]; simp [he]

/-- What is said of a client's greatest number. -/
structure Lst (l : List Ent) (c : Nat) (p : Nat × Bool) : Prop where
  up : ∀ e ∈ l, e.1 = c → e.2.1 ≤ p.1 ∧ p.2 = true
  no : p.2 = false → p.1 = 0
  is : p.2 = true → ∃ e ∈ l, e.1 = c ∧ e.2.1 = p.1
theorem dlast_snoc (l : List Ent) (e : Ent) (c : Nat) : dlast (l ++ [e]) c = dlstep c (dlast l c) e := by simp [dlast, List.foldl_append]
theorem dlast_is (l : List Ent) (c : Nat) : Lst l c (dlast l c) := by
  have h0 : Lst [] c (dlast [] c) := ⟨by simp, (fun _ => rfl), (fun h => by simp [dlast] at h)⟩
  refine snoc_ind (p := fun l => Lst l c (dlast l c)) h0 (fun l e ih => ?_) l
  rw [dlast_snoc]
  unfold dlstep
  obtain ⟨i1, i2, i3⟩ := ih
  by_cases h : e.1 = c
  · rw [if_pos h]
    refine ⟨fun x hx hc => ?_, (fun h => by cases h), fun _ => ?_⟩
    · rcases List.mem_append.1 hx with hx | hx
      · exact ⟨Nat.le_trans (i1 x hx hc).1 (Nat.le_max_left _ _), rfl⟩
      · obtain rfl : x = e := by simpa using hx
        exact ⟨Nat.le_max_right _ _, rfl⟩
    · rcases Nat.le_total (dlast l c).1 e.2.1 with hm | hm
      · exact ⟨e, by simp, h, by rw [Nat.max_eq_right hm]⟩
      · cases hb : (dlast l c).2 with
        | false =>
          have := i2 hb
          exact ⟨e, by simp, h, by simp; omega⟩
        | true =>
          obtain ⟨x, hx, hc, hv⟩ := i3 hb
          exact ⟨x, by simp [hx], hc, by rw [Nat.max_eq_left hm]; exact hv⟩
  · rw [if_neg h]
    refine ⟨fun x hx hc => ?_, i2, fun hb => ?_⟩
    · rcases List.mem_append.1 hx with hx | hx
      · exact i1 x hx hc
      · obtain rfl : x = e := by simpa using hx
        exact absurd hc h
    · obtain ⟨x, hx, hc, hv⟩ := i3 hb
      exact ⟨x, by simp [hx], hc, hv⟩
theorem Lst.eq {l : List Ent} {c : Nat} {p q : Nat × Bool} (h : Lst l c p) (k : Lst l c q) : p = q := by
  obtain ⟨p1, p2⟩ := p
  obtain ⟨q1, q2⟩ := q
  obtain ⟨a1, a2, a3⟩ := h
  obtain ⟨b1, b2, b3⟩ := k
  simp only at *
  cases p2 with
  | false =>
    cases q2 with
    | false => rw [a2 rfl, b2 rfl]
    | true =>
      obtain ⟨e, he, hc, _⟩ := b3 rfl
      exact absurd (a1 e he hc).2 (by simp)
  | true =>
    obtain ⟨e, he, hc, hv⟩ := a3 rfl
    obtain ⟨h1, h2⟩ := b1 e he hc
    subst h2
    obtain ⟨e', he', hc', hv'⟩ := b3 rfl
    have h3 := (a1 e' he' hc').1
    have : p1 = q1 := by omega
    rw [this]

/-! ### The keys -/

def klw (c s : Nat) : Lit := .string (keyBytes [.int .u64 (c : Int), .int .u64 (s : Int)])
def kvw (c s : Nat) : Value := .agg #[.int .u64 (c : Int), .int .u64 (s : Int)]
abbrev B64 (x : Nat) : Prop := x < 18446744073709551616

/-- What the walk needs of the key's type 'K' and the element's type 'E'. -/
structure KeyW (P : Program) (K E : TypeId) : Prop where
  law : Keyed P K
  of : ∀ c s, B64 c → B64 s → keyOf P K (kvw c s) = some (klw c s)
  inv : ∀ v l, keyOf P K v = some l → ∃ c s, B64 c ∧ B64 s ∧ v = kvw c s ∧ l = klw c s
  he : P.underlying E = some (.int .i64)
  hz : ∀ w, (zeroValue E).run P w = .ok (.int .i64 0) w

section
variable {P : Program} {K E : TypeId}
theorem KeyW.inj (W : KeyW P K E) {c s c' s' : Nat} (hc : B64 c) (hs : B64 s) (hc' : B64 c') (hs' : B64 s') (h : klw c s = klw c' s') : c = c' ∧ s = s' := by
  have h1 := W.of c s hc hs
  have h2 := W.of c' s' hc' hs'
  rw [h] at h1
  have := W.law.inj h1 h2
  unfold kvw at this
  injection this with h3
  simp only [Array.mk.injEq, List.cons.injEq, Value.int.injEq, true_and, and_true] at h3
  omega
theorem KeyW.isKey (W : KeyW P K E) {c s : Nat} (hc : B64 c) (hs : B64 s) : WideAt.IsKeyLit (klw c s) := W.law.key (W.of c s hc hs)

theorem u64_wf {x : Nat} (h : B64 x) : (Lit.int .u64 (x : Int)).wf = true := by
  exact WalkArith.wf_u64 (by unfold B64 at h; omega)

theorem lit_u64 {d : Nat} {t : TypeId} {v : Value} {l : List Lit} (hu : P.underlying t = some (.int .u64)) (h : P.keyLits (d + 1) t [v] = some l) : ∃ x : Nat, B64 x ∧ v = .int .u64 (x : Int) ∧ l = [.int .u64 (x : Int)] := by
  obtain ⟨m, e, rfl⟩ := keyLits_int' hu h
  obtain rfl : v = .int .u64 m := by simpa using e
  simp [Program.keyLits, hu] at h
  have hw := h
  have hb := bounds_u64 hw
  obtain ⟨x, rfl⟩ := Int.eq_ofNat_of_zero_le hb.1
  exact ⟨x, by unfold B64; omega, rfl, rfl⟩

/-- A key's type that is a struct of two uint64s. -/
theorem keyW_mk {n : Nat} {f0 f1 : Field} (laid : laidOutB P = true) (hsz : P.types.size = n + 1) (hrow : K < P.types.size) (hu : P.underlying K = some (.struct #[f0, f1])) (hkt : P.keyType K = true) (hk2 : P.keyTypeAt 2 K = true) (hc : P.cellsOf K = 2) (hn0 : (f0.name != "_") = true) (hn1 : (f1.name != "_") = true)
    (o0 : f0.offset = 0) (o1 : f1.offset = 1) (t0 : P.underlying f0.type = some (.int .u64)) (t1 : P.underlying f1.type = some (.int .u64)) (c0 : P.cellsOf f0.type = 1) (c1 : P.cellsOf f1.type = 1)
    (he : P.underlying E = some (.int .i64)) (hz : ∀ w, (zeroValue E).run P w = .ok (.int .i64 0) w) : KeyW P K E where
  law := Keyed.of_law (deep_law_laid laid (m := 2) (by omega) hrow hk2 (by rw [hu]))
  he := he
  hz := hz
  of c s h1 h2 := by
    have w1 := u64_wf h1
    have w2 := u64_wf h2
    simp [keyOf, hu, hkt, kvw, Value.formed, hc, hsz, Value.cells, Program.keyLits, hn0, hn1, o0, o1, c0, c1, t0, t1, w1, w2, klw]
  inv v l h := by
    cases v <;> simp [keyOf, hu, hkt, Value.formed, hc] at h
    rename_i xs
    obtain ⟨hx, ls, hl, rfl⟩ := h
    obtain ⟨xl⟩ := xs
    match xl, hx with
    | [v0, v1], _ =>
      have h0 : P.keyLits (n + 1 + 1) K [v0, v1] = (do let a ← P.keyLits (n + 1) f0.type [v0]; let b ← P.keyLits (n + 1) f1.type [v1]; some [a, b].flatten) := by
        conv => lhs; unfold Program.keyLits
        simp [hu, hc, hn0, hn1, o0, o1, c0, c1]
        cases P.keyLits (n + 1) f0.type [v0] with
        | none => rfl
        | some a =>
          cases P.keyLits (n + 1) f1.type [v1] with
          | none => rfl
          | some b => simp
      simp only [Value.cells, hsz] at hl
      rw [h0] at hl
      cases ha : P.keyLits (n + 1) f0.type [v0] with
      | none => rw [ha] at hl; cases hl
      | some a =>
        cases hb : P.keyLits (n + 1) f1.type [v1] with
        | none => rw [ha, hb] at hl; cases hl
        | some b =>
          rw [ha, hb] at hl
          obtain ⟨x, hx, rfl, rfl⟩ := lit_u64 t0 ha
          obtain ⟨y, hy, rfl, rfl⟩ := lit_u64 t1 hb
          cases hl
          exact ⟨x, y, hx, hy, rfl, rfl⟩
end

/-! ### The map -/

/-- Block 'b' is a map that holds the list's entries. -/
def MapIs (P : Program) (K E : TypeId) (w : World) (b : Nat) (l : List Ent) : Prop :=
  ∃ D : DataW Unit, w.ownsMap P K (plainElem P E) b l.length D ∧ (∀ c s, B64 c → B64 s → Maps.has D (klw c s) = dknown l c s ∧ D.atKey (klw c s) (.lit (.int .i64 0)) = .lit (.int .i64 (dat l c s))) ∧ Maps.size D = l.length ∧ (∀ e ∈ l, B64 e.1 ∧ B64 e.2.1)

section
variable {P : Program} {K E : TypeId} {w w' : World} {b : Nat} {l : List Ent}
theorem MapIs.keep (h : MapIs P K E w b l) (hb : w'.heap[b]? = w.heap[b]?) : MapIs P K E w' b l := by
  obtain ⟨D, ⟨es, clock, hh, r⟩, r2⟩ := h
  exact ⟨D, ⟨es, clock, hb.trans hh, r⟩, r2⟩
theorem MapIs.lt (h : MapIs P K E w b l) : b < w.heap.size := by
  obtain ⟨D, ⟨es, clock, hh, r⟩, r2⟩ := h
  exact (Array.getElem?_eq_some_iff.1 hh).1
theorem mapIs_new (w : World) (l : List Ent) (hl : l = []) : MapIs P K E (w.alloc (.map #[] 0)) w.heap.size l := by
  subst hl
  exact ⟨.map [], World.ownsMap_made _ _ _ _, fun c s _ _ => ⟨rfl, by simp [dat, DataW.atKey]⟩, rfl, by simp⟩

variable {ops : Array Oper} {rest : List Oper} {o : Oper} {a : Act} {Q : Exit → Act → World → Prop}
theorem run_look {t : TypeId} (W : KeyW P K E) (ht : P.underlying t = some (.map K E)) (h : MapIs P K E w b l) {c s : Nat} (hc : B64 c) (hs : B64 s) :
    (Instr.lookup t (.map (some b)) (kvw c s) true).run P w = .ok (.tuple #[.int .i64 (dat l c s), .bool (dknown l c s)]) w := by
  obtain ⟨D, hD, hr, _⟩ := h
  obtain ⟨v, ps, hrun, hv⟩ := hD.look_ok W.law ht (W.hz w) (zd := .lit (.int .i64 0)) (zp := []) (plainElem_int W.he (by decide)) (W.of c s hc hs)
  obtain ⟨x, rfl, hx, _⟩ := plainElem_int_inv W.he hv
  obtain ⟨h1, h2⟩ := hr c s hc hs
  rw [h1] at hrun
  rw [hrun]
  have h3 : D.atKey (klw c s) (.lit (.int .i64 0)) = .lit (.int .i64 x) := congrArg Prod.fst hx
  rw [h2] at h3
  injection h3 with h3
  injection h3 with _ h3
  rw [h3]
theorem run_op_look {t : TypeId} (W : KeyW P K E) (ht : P.underlying t = some (.map K E)) {m x : Operand} (ho : o.op = .lookup t m x true) (hm : a.eval m = .map (some b)) {c s : Nat} (hx : a.eval x = kvw c s) (h : MapIs P K E w b l) (hc : B64 c) (hs : B64 s) :
    (execOp a.eval o).run P w = .ok (.value (.tuple #[.int .i64 (dat l c s), .bool (dknown l c s)])) w := by
  unfold execOp
  simp only [ho, hm, hx, Sem.run_bind, Sem.run_pure, run_look W ht h hc hs, Result.andThen_ok]
theorem run_len {t ty : TypeId} (ht : P.underlying t = some (.map K E)) (h : MapIs P K E w b l) : (Builtin.len_ #[t] ty #[.map (some b)]).run P w = .ok (.int .i64 (l.length : Int)) w := by
  obtain ⟨D, hD, _, hs, _⟩ := h
  rw [hD.len ht ty, hs]

/-- A store at a key that isn't there. -/
theorem wpList_note (W : KeyW P K E) (hgd : Region.wanted o (yielded ops a.tmps) = true) (m x v : Operand) (t : TypeId) (hop : o.op = Op.mapUpdate t m x v) (ht : P.underlying t = some (.map K E)) (h : MapIs P K E w b l)
    (hm : a.eval m = .map (some b)) {c s : Nat} (hx : a.eval x = kvw c s) {at_ : Int} (hv : a.eval v = .int .i64 at_) (hw : (Lit.int .i64 at_).wf = true) (hc : B64 c) (hs : B64 s) (hk : dknown l c s = false) (hn : l.length < maxLen)
    (hK : ∀ w', MapIs P K E w' b (l ++ [(c, s, at_)]) → w.grownBy w' (some b) → w'.heap.size = w.heap.size → wpList P ops Q rest (a.put o.dst undef) w') : wpList P ops Q (o :: rest) a w := by
  refine wpList_wanted hgd fun K' hK' => ?_
  obtain ⟨D, hD, hr, hsz, hl⟩ := h
  have hT := hD.tidy W.law
  obtain ⟨w', hrun, r1, r2⟩ := hD.store W.law ht hn (W.of c s hc hs) (d := .lit (.int .i64 at_)) (ps := []) (plainElem_int W.he hw)
  unfold Oper.wp
  simp [execOp, hop, hm, hx, hv, hrun, Result.andThen]
  refine hK' _ _ (hK w' ⟨_, by simpa using r1, fun c' s' hc' hs' => ?_, ?_, ?_⟩ r2.grown ?_)
  · rw [dknown_snoc]
    by_cases he : c = c' ∧ s = s'
    · obtain ⟨rfl, rfl⟩ := he
      have hh : dhit c s (c, s, at_) = true := by simp [dhit]
      rw [Maps.has_put_same hT.isMap (W.isKey hc hs), Maps.atKey_put_same hT.isMap (W.isKey hc hs), dat_snoc_new l _ c s hk hh, hh]
      simp
    · have hne : klw c' s' ≠ klw c s := fun e => he (by obtain ⟨h1, h2⟩ := W.inj hc' hs' hc hs e; exact ⟨h1.symm, h2.symm⟩)
      have hh : dhit c' s' (c, s, at_) = false := by simp [dhit]; intro h1 h2; exact he ⟨h1, h2⟩
      obtain ⟨q1, q2⟩ := hr c' s' hc' hs'
      rw [Maps.has_put_other hne, Maps.atKey_put_other hne, q1, q2, hh]
      refine ⟨by simp, ?_⟩
      congr 2
      unfold dat
      rw [List.find?_append]
      simp [hh]
  · have hkf : Maps.has D (klw c s) = false := by rw [(hr c s hc hs).1]; exact hk
    rw [Maps.size_put hT, hkf, hsz]; simp
  · intro e he
    rcases List.mem_append.1 he with he | he
    · exact hl e he
    · obtain rfl : e = (c, s, at_) := by simpa using he
      exact ⟨hc, hs⟩
  · obtain ⟨es, clock, es', clock', _, rfl⟩ := r2
    simp [ChangeMaps.setBlock]

/-! ### Ranging over it -/

/-- A range under way: what is still to come. -/
def RangeIs (P : Program) (K E : TypeId) (w : World) (b r : Nat) (l : List Ent) (left : Nat → Nat → Bool) (cnt : Nat) : Prop :=
  ∃ (D : DataW Unit) (lf : Lit → Bool), w.ranges P K (plainElem P E) b r l.length D lf cnt ∧ (∀ c s, B64 c → B64 s → Maps.has D (klw c s) = dknown l c s ∧ lf (klw c s) = left c s)

theorem RangeIs.left_eq {r : Nat} {left : Nat → Nat → Bool} {cnt : Nat} (h : RangeIs P K E w b r l left cnt) : w.rangeLeft b r = cnt := by
  obtain ⟨D, lf, h, _⟩ := h
  exact h.left_eq
theorem RangeIs.ne {r : Nat} {left : Nat → Nat → Bool} {cnt : Nat} (h : RangeIs P K E w b r l left cnt) : r ≠ b := by
  obtain ⟨D, lf, h, _⟩ := h
  exact h.ne
theorem RangeIs.alloc {r : Nat} {left : Nat → Nat → Bool} {cnt : Nat} (h : RangeIs P K E w b r l left cnt) (o : Obj) : RangeIs P K E (w.alloc o) b r l left cnt := by
  obtain ⟨D, lf, h, q⟩ := h
  exact ⟨D, lf, h.alloc o, q⟩
theorem RangeIs.kept {r : Nat} {left : Nat → Nat → Bool} {cnt : Nat} {row : Option Nat} (h : RangeIs P K E w b r l left cnt) (hg : w.grownBy w' row) (hb' : some b ≠ row) (hr' : some r ≠ row) : RangeIs P K E w' b r l left cnt := by
  obtain ⟨D, lf, h, q⟩ := h
  exact ⟨D, lf, h.kept hg hb' hr', q⟩

theorem wpList_range_is (W : KeyW P K E) (hg : o.guard = none) (m : Operand) (t : TypeId) (hop : o.op = Op.range t m) (ht : P.underlying t = some (.map K E)) (hm : a.eval m = .map (some b)) (h : MapIs P K E w b l)
    (hK : ∀ w', RangeIs P K E w' b w.heap.size l (dknown l) l.length → w.grownBy w' none → w'.heap.size = w.heap.size + 1 → wpList P ops Q rest (a.put o.dst (.pointer (some ⟨w.heap.size, 0, none⟩))) w') :
    wpList P ops Q (o :: rest) a w := by
  obtain ⟨D, hD, hr, hsz, _⟩ := h
  refine wpList_range_own w hg m t hop K E W.law ht _ b _ D hm hD (fun w' h1 h2 h3 => hK w' ⟨D, Maps.has D, by rw [← hsz]; rw [hsz]; exact hsz ▸ h1, fun c s hc hs => ⟨(hr c s hc hs).1, (hr c s hc hs).1⟩⟩ h2 h3)

/-- Less one that has come. -/
def strike (left : Nat → Nat → Bool) (c s c' s' : Nat) : Bool := left c' s' && !(c == c' && s == s')

theorem wpList_next_is (W : KeyW P K E) (hg : o.guard = none) (it : Operand) (hop : o.op = Op.next it false) {r : Nat} {left : Nat → Nat → Bool} {cnt : Nat}
    (hit : a.eval it = .pointer (some ⟨r, 0, none⟩)) (h : RangeIs P K E w b r l left cnt)
    (hDone : (∀ c s, B64 c → B64 s → left c s = false) → wpList P ops Q rest (a.put o.dst (.tuple #[.bool false])) w)
    (hMore : ∀ (c s : Nat) (at_ : Int) (w' : World) (cnt' : Nat), B64 c → B64 s → dknown l c s = true → RangeIs P K E w' b r l (strike left c s) cnt' → cnt' < cnt →
      w.grownBy w' (some r) → w'.heap.size = w.heap.size → (Instr.entry (.pointer (some ⟨r, 0, none⟩))).run P w' = .ok (.tuple #[.agg #[.int .u64 (c : Int), .int .u64 (s : Int)], .int .i64 at_]) w' → wpList P ops Q rest (a.put o.dst (.tuple #[.bool true, .agg #[.int .u64 (c : Int), .int .u64 (s : Int)], .int .i64 at_])) w') :
    wpList P ops Q (o :: rest) a w := by
  obtain ⟨D, lf, hD, hr⟩ := h
  refine wpList_next_ranges (α := Nat × Nat) (β := Int) w hg it hop K W.law (plainElem P E) (fun x => kvw x.1 x.2) (.int .i64)
    (fun key kl hk => by obtain ⟨c, s, _, _, rfl, _⟩ := W.inv key kl hk; exact ⟨(c, s), rfl⟩) (fun v y hv => by obtain ⟨x, rfl, _⟩ := plainElem_int_inv W.he hv; exact ⟨x, rfl⟩)
    b r _ D lf cnt hit hD (fun _ hl => hDone fun c s hc hs => by rw [← (hr c s hc hs).2]; exact hl _) ?_
  intro x at_ kl y w' cnt' hkey hlk hv hat hrg hlt hgr hsz hen
  obtain ⟨c, s, hc, hs, e1, rfl⟩ := W.inv _ _ hkey
  obtain ⟨x1, x2⟩ := x
  unfold kvw at e1
  injection e1 with e1
  simp only [Array.mk.injEq, List.cons.injEq, Value.int.injEq, true_and, and_true] at e1
  obtain rfl : x1 = c := by omega
  obtain rfl : x2 = s := by omega
  refine hMore x1 x2 at_ w' cnt' hc hs ?_ ⟨D, _, hrg, fun c' s' hc' hs' => ⟨(hr c' s' hc' hs').1, ?_⟩⟩ hlt hgr hsz hen
  · rw [← (hr x1 x2 hc hs).1]
    exact Maps.has_true_of_atKey hat
  · rw [(hr c' s' hc' hs').2]
    unfold strike
    congr 2
    by_cases he : x1 = c' ∧ x2 = s'
    · obtain ⟨rfl, rfl⟩ := he
      rw [WideAt.sameKey_self (W.isKey hc hs)]
      simp
    · rw [Maps.sameKey_ne (fun e => he (by obtain ⟨h1, h2⟩ := W.inj hc' hs' hc hs e; exact ⟨h1.symm, h2.symm⟩))]
      symm
      simp only [Bool.and_eq_false_imp, beq_iff_eq, beq_eq_false_iff_ne]
      intro h1 h2
      exact he ⟨h1, h2⟩
end
end Go.NB
namespace Go.Proofs.Ytjfidhjnbcmhfaa
open Go.RowKit
open Go.NB (Rd Kp Stp Off Dis Ent dknown dat dlast B64 MapIs KeyW kvw)

theorem kw : KeyW Try.prog 106 3 := by
  obtain ⟨n, hn⟩ : ∃ n, Try.prog.types.size = n + 1 := ⟨Try.prog.types.size - 1, by have : 0 < Try.prog.types.size := of_decide_eq_true (by kernel_rfl); omega⟩
  exact NB.keyW_mk (by kernel_rfl) hn (of_decide_eq_true (by kernel_rfl)) Try.underlying106 (by kernel_rfl) (by kernel_rfl) (by kernel_rfl) rfl rfl rfl rfl Try.underlying32 Try.underlying32 (by kernel_rfl) (by kernel_rfl) Try.underlying3 (fun _ => by kernel_rfl)

/-- A table: its struct's block, its map's block. -/
structure IsT (w : World) (base p b : Nat) (l : List Ent) : Prop where
  hp : w.heap[p]? = some (.cells #[.map (some b)] 84 (0, 0))
  mp : MapIs Try.prog 106 3 w b l
  bp : base ≤ p
  bb : base ≤ b
  ne : b ≠ p
def footT (p b k : Nat) : Prop := k = p ∨ k = b
def HasT (w : World) (base p : Nat) (F : Nat → Prop) (l : List Ent) : Prop := ∃ b, IsT w base p b l ∧ F = footT p b
section
variable {w w' : World} {base p b : Nat} {l : List Ent} {F : Nat → Prop}
theorem IsT.lt (h : IsT w base p b l) : p < w.heap.size := (Array.getElem?_eq_some_iff.1 h.hp).1
theorem IsT.cell (h : IsT w base p b l) : w.cell? ⟨p, 0, none⟩ = some (.map (some b)) := by rw [cell_of_row w p 0 _ _ (0, 0) h.hp]; rfl
theorem IsT.foot (h : IsT w base p b l) (k : Nat) (hk : footT p b k) : base ≤ k ∧ k < w.heap.size := by
  rcases hk with rfl | rfl
  · exact ⟨h.bp, h.lt⟩
  · exact ⟨h.bb, h.mp.lt⟩
theorem HasT.foot (h : HasT w base p F l) (k : Nat) (hk : F k) : base ≤ k ∧ k < w.heap.size := by
  obtain ⟨b, h, rfl⟩ := h
  exact h.foot k hk
theorem IsT.keep {G : Nat → Prop} (h : IsT w base p b l) (hk : Kp G w w') (hG : Dis (footT p b) G) : IsT w' base p b l :=
  { h with hp := (hk.block p h.lt (hG p (.inl rfl))).trans h.hp, mp := h.mp.keep (hk.block b h.mp.lt (hG b (.inr rfl))) }
theorem HasT.keep {G : Nat → Prop} (h : HasT w base p F l) (hk : Kp G w w') (hG : Dis F G) : HasT w' base p F l := by
  obtain ⟨b, h, rfl⟩ := h
  exact ⟨b, h.keep hk hG, rfl⟩
theorem IsT.below (h : IsT w base p b l) (hb : Below w.heap.size w w') : IsT w' base p b l := h.keep (G := fun _ => False) (Kp.of_below hb) (fun _ _ h => h)
theorem HasT.below (h : HasT w base p F l) (hb : Below w.heap.size w w') : HasT w' base p F l := h.keep (G := fun _ => False) (Kp.of_below hb) (fun _ _ h => h)
theorem HasT.low {F' : Nat → Prop} (h : HasT w base p F l) (hs : Stp F F' w w') : Below base w w' := by
  have hF := fun k hk => (h.foot k hk).1
  obtain ⟨b, h, rfl⟩ := h
  exact hs.low (by have := h.lt; have := h.bp; omega) hF
end

/-- A new one. -/
def NewT (w : World) (e : Ending) (w' : World) : Prop := ∃ p F, e = .returned (.pointer (some ⟨p, 0, none⟩)) ∧ HasT w' w.heap.size p F [] ∧ Below w.heap.size w w'
set_option maxHeartbeats 400000 in
theorem tnew_any (w : World) : Calls Try.prog 20 #[] w (NewT w) := by
  have hmm := @run_makeMap Try.prog
  go_enter Try.func20, Try.ntmps20
  go_wp2
  go_ret
  have hb := NB.mapIs_new (P := Try.prog) (K := 106) (E := 3) w [] rfl
  refine ⟨w.heap.size + 1, _, rfl, ⟨w.heap.size, ⟨?_, hb.keep ?_, by omega, by omega, by omega⟩, rfl⟩, ((Below.refl _ _).alloc (Nat.le_refl _) _).alloc (by simp) _⟩
  · have := heap_alloc_new (w.alloc (.map #[] 0)) (.cells #[.map (some w.heap.size)] 84 (0, 0))
    simpa using this
  · exact Below.heap_alloc _ _ _ (by simp)

def dnote (l : List Ent) (c s : Nat) (at_ : Int) : List Ent × Int := if at_ < 0 then (l, 1) else if dknown l c s then (l, 31) else (l ++ [(c, s, at_)], 0)
def NoteT (w : World) (base p : Nat) (F : Nat → Prop) (r : List Ent × Int) (e : Ending) (w' : World) : Prop := e = .returned (.int .i64 r.2) ∧ HasT w' base p F r.1 ∧ Stp F F w w'

set_option maxHeartbeats 400000 in
theorem note_nil (w : World) (x y z : Value) : Calls Try.prog 33 #[.pointer none, x, y, z] w fun e w' => e = .returned (.int .i64 1) ∧ w' = w := by
  go_enter Try.func33, Try.ntmps33
  go_wp2
  go_ret
  exact ⟨rfl, rfl⟩

set_option maxHeartbeats 400000 in
theorem note_any (w : World) (base p : Nat) (F : Nat → Prop) (l : List Ent) (c s : Nat) (at_ : Int) (h : HasT w base p F l) (hc : B64 c) (hs : B64 s) (hat : (Lit.int .i64 at_).wf = true) (hl : l.length ≤ 1000000) :
    Calls Try.prog 33 #[.pointer (some ⟨p, 0, none⟩), .int .u64 (c : Int), .int .u64 (s : Int), .int .i64 at_] w (NoteT w base p F (dnote l c s at_)) := by
  obtain ⟨b, h, rfl⟩ := h
  have c0 := h.cell
  by_cases h0 : at_ < 0
  · have hq : dnote l c s at_ = (l, 1) := by simp [dnote, h0]
    rw [hq]
    go_enter Try.func33, Try.ntmps33
    go_wp2
    go_ret
    exact ⟨rfl, ⟨b, h, rfl⟩, Stp.refl _ _⟩
  · have hA := h.below ((Below.refl _ w).alloc (Nat.le_refl _) (.cells #[.int .u64 (c : Int), .int .u64 (s : Int)] 106))
    have hrow := heap_alloc_new w (.cells #[.int .u64 (c : Int), .int .u64 (s : Int)] 106)
    have hSA : Kp (footT p b) w (w.alloc (.cells #[.int .u64 (c : Int), .int .u64 (s : Int)] 106)) := (Kp.refl _ _).alloc _
    have hszA : (w.alloc (.cells #[.int .u64 (c : Int), .int .u64 (s : Int)] 106)).heap.size = w.heap.size + 1 := by simp
    have hplt := h.lt
    have hblt := h.mp.lt
    clear h
    have hqq : dnote l c s at_ = if dknown l c s then (l, 31) else (l ++ [(c, s, at_)], 0) := by simp [dnote, h0]
    have HQ := Go.Lib.hid hqq; clear hqq
    generalize dnote l c s at_ = R at *
    go_enter Try.func33, Try.ntmps33
    go_wp2_with fail
    generalize w.alloc (.cells #[.int .u64 (c : Int), .int .u64 (s : Int)] 106) = wA at *
    refine NB.wp_region_t [] (by kernel_rfl) ?_
    have hA1 := hA.below (Below.refl _ wA).drew
    have hrow1 : wA.drew.heap[w.heap.size]? = some (.cells #[.int .u64 (c : Int), .int .u64 (s : Int)] 106 (0, 0)) := hrow
    have hS1 : Kp (footT p b) w wA.drew := hSA.drew
    have hsz1 : wA.drew.heap.size = w.heap.size + 1 := hszA
    clear hA hrow hSA hszA
    generalize wA.drew = w1 at *
    have e0 := hA1.cell
    refine NB.t_p 0 rfl (by kernel_rfl) (fun K hK => ?_); go_simp; refine hK _ ?_; clear hK K
    refine NB.t_p 1 rfl (by kernel_rfl) (fun K hK => ?_); go_simp; refine hK _ ?_; clear hK K
    refine NB.t_p 2 rfl (by kernel_rfl) (fun K hK => ?_); go_simp; refine hK _ ?_; clear hK K
    refine NB.t_r 3 [5, 6, 7, 8, 9, 10] rfl (by kernel_rfl) (by kernel_rfl) rfl _ (fun w' hw' => NB.run_op_load rfl rfl Try.underlying82 rfl e0 hw') (fun K hK => ?_); go_simp; refine hK _ ?_; clear hK K
    refine NB.t_r 4 [5, 6, 7, 8, 9, 10] rfl (by kernel_rfl) (by kernel_rfl) rfl _ (fun w' hw' => NB.run_op_load_agg rfl rfl Try.underlying106 rfl 106 _ (0, 0) hrow1 (m := 2) (by kernel_rfl) (by simp) _ rfl hw') (fun K hK => ?_); go_simp; refine hK _ ?_; clear hK K
    refine NB.t_r 5 [6, 7, 8, 9, 10] rfl (by kernel_rfl) (by kernel_rfl) rfl _ (fun w' hw' => NB.run_op_look kw Try.underlying82 rfl rfl (c := c) (s := s) rfl (hA1.mp.keep (hw'.block b hA1.mp.lt)) hc hs) (fun K hK => ?_); go_simp; refine hK _ ?_; clear hK K
    refine NB.t_p 6 rfl (by kernel_rfl) (fun K hK => ?_); go_simp; refine hK _ ?_; clear hK K
    refine NB.t_p 7 rfl (by kernel_rfl) (fun K hK => ?_); go_simp; refine hK _ ?_; clear hK K
    refine NB.t_p 8 rfl (by kernel_rfl) (fun K hK => ?_); go_simp; refine hK _ ?_; clear hK K
    refine NB.t_p 9 rfl (by kernel_rfl) (fun K hK => ?_); go_simp; refine hK _ ?_; clear hK K
    refine NB.t_p 10 rfl (by kernel_rfl) (fun K hK => ?_); go_simp; refine hK _ ?_; clear hK K
    refine NB.t_end (by kernel_rfl) ?_
    cases hk : dknown l c s with
    | true =>
      have hR : R = (l, 31) := by rw [HQ.out, hk]; rfl
      have HK := Go.Lib.hid hk; clear hk
      go_wp2_with fail
      go_ret
      rw [hR]
      exact ⟨rfl, ⟨b, hA1, rfl⟩, .of_kp hS1⟩
    | false =>
      have hR : R = (l ++ [(c, s, at_)], 0) := by rw [HQ.out, hk]; rfl
      have HK := Go.Lib.hid hk; clear hk
      go_wp2_with fail
      refine NB.wp_region_t [6] (by kernel_rfl) ?_
      have hA2 := hA1.below (Below.refl _ w1).drew
      have hrow2 : w1.drew.heap[w.heap.size]? = some (.cells #[.int .u64 (c : Int), .int .u64 (s : Int)] 106 (0, 0)) := hrow1
      have hS2 : Kp (footT p b) w w1.drew := hS1.drew
      clear hA1 hrow1 hS1 e0
      generalize w1.drew = w2 at *
      have e0 := hA2.cell
      refine NB.t_p 0 rfl (by kernel_rfl) (fun K hK => ?_); go_simp; refine hK _ ?_; clear hK K
      refine NB.t_p 1 rfl (by kernel_rfl) (fun K hK => ?_); go_simp; refine hK _ ?_; clear hK K
      refine NB.t_p 2 rfl (by kernel_rfl) (fun K hK => ?_); go_simp; refine hK _ ?_; clear hK K
      refine NB.t_r 3 [6] rfl (by kernel_rfl) (by kernel_rfl) rfl _ (fun w' hw' => NB.run_op_load rfl rfl Try.underlying82 rfl e0 hw') (fun K hK => ?_); go_simp; refine hK _ ?_; clear hK K
      refine NB.t_r 4 [6] rfl (by kernel_rfl) (by kernel_rfl) rfl _ (fun w' hw' => NB.run_op_load_agg rfl rfl Try.underlying106 rfl 106 _ (0, 0) hrow2 (m := 2) (by kernel_rfl) (by simp) _ rfl hw') (fun K hK => ?_); go_simp; refine hK _ ?_; clear hK K
      refine NB.t_p 5 rfl (by kernel_rfl) (fun K hK => ?_); go_simp; refine hK _ ?_; clear hK K
      refine NB.t_w 6 rfl (by kernel_rfl) (by kernel_rfl) rfl (fun Q' hK => ?_)
      refine NB.wpList_note kw rfl (.tmp 34) (.tmp 35) (.tmp 36) 82 rfl Try.underlying82 hA2.mp rfl (c := c) (s := s) rfl rfl hat hc hs HK.out (by unfold maxLen; omega) ?_
      intro w3 hm3 hg3 hs3
      refine hK _ _ ?_
      clear hK Q'
      have hA3 : IsT w3 _ p b (l ++ [(c, s, at_)]) := { hA2 with hp := (hg3.block p hA2.lt (fun e => hA2.ne (by cases e; rfl))).trans hA2.hp, mp := hm3 }
      have hS3 : Kp (footT p b) w w3 := hS2.grown hg3 (fun k e => .inl (.inr (by cases e; rfl)))
      refine NB.t_end (by kernel_rfl) ?_
      go_wp2_with fail
      go_ret
      rw [hR]
      exact ⟨rfl, ⟨b, hA3, rfl⟩, .of_kp hS3⟩

set_option maxHeartbeats 400000 in
theorem find_nil (w : World) (x y : Value) : Calls Try.prog 32 #[.pointer none, x, y] w fun e w' => e = .returned (.tuple #[.int .i64 0, .bool false]) ∧ w' = w := by
  go_enter Try.func32, Try.ntmps32
  go_wp2
  go_ret2
  exact ⟨rfl, rfl⟩

set_option maxHeartbeats 400000 in
theorem find_any (w : World) (base p : Nat) (F : Nat → Prop) (l : List Ent) (c s : Nat) (h : HasT w base p F l) (hc : B64 c) (hs : B64 s) :
    Calls Try.prog 32 #[.pointer (some ⟨p, 0, none⟩), .int .u64 (c : Int), .int .u64 (s : Int)] w fun e w' => e = .returned (.tuple #[.int .i64 (dat l c s), .bool (dknown l c s)]) ∧ w' = w := by
  obtain ⟨b, h, rfl⟩ := h
  have c0 := h.cell
  have hlook := NB.run_look kw Try.underlying82 h.mp hc hs
  unfold kvw at hlook
  go_enter Try.func32, Try.ntmps32
  go_wp2
  go_ret2
  exact ⟨rfl, rfl⟩

end Go.Proofs.Ytjfidhjnbcmhfaa
namespace Go.Proofs.Ytjfidhjnbcmhfaa
open Go.RowKit
open Go.NB (Rd Kp Stp Off Dis B64 Rr encU encB oneB dB Rw)

/-- An entry: who, its number, its bytes. -/
abbrev En := Nat × Nat × List UInt8
def putM (e : En) : List UInt8 × Int := if 1024 < e.2.2.length then ([], 13) else (encU e.1 ++ encU e.2.1 ++ encB e.2.2, 0)
def getM (b : List UInt8) : En × Int :=
  let u := Rr.uint ⟨b, 0⟩
  let v := u.1.uint
  let t := v.1.bytes 1024
  if t.1.fin ≠ 0 then ((0, 0, []), t.1.fin) else ((u.2, v.2, t.2), 0)

/-- Bytes and an error, in new memory. -/
def BytE (w : World) (r : List UInt8 × Int) (e : Ending) (w' : World) : Prop :=
  ∃ a c, e = .returned (.tuple #[.slice a r.1.length c, .int .i64 r.2]) ∧ NB.OwnB w' w.heap.size 5 (.slice a r.1.length c) r.1 ∧ Below w.heap.size w w'

set_option maxHeartbeats 400000 in
theorem dput_any (w : World) (x y : Nat) (a : Option Addr) (n c : Nat) (b : List UInt8) (hx : B64 x) (hy : B64 y) (hr : NB.RdB w a n c b) :
    Calls Try.prog 24 #[.agg #[.int .u64 (x : Int), .int .u64 (y : Int), .slice a n c]] w (BytE w (putM (x, y, b))) := by
  have hsz := NB.RdB.size hr
  by_cases h0 : 1024 < n
  · have hq : putM (x, y, b) = ([], 13) := by simp [putM, hsz, h0]
    rw [hq]
    have h0' : (1024 : Int) < (n : Int) := by omega
    go_enter Try.func24, Try.ntmps24
    go_wp2
    go_ret2
    exact ⟨none, 0, rfl, World.ownsRow_nil _ _ _ _, oneB _ _⟩
  · have hq : putM (x, y, b) = (encU x ++ encU y ++ encB b, 0) := by simp [putM, hsz, h0]
    rw [hq]
    have h0' : ¬ (1024 : Int) < (n : Int) := by omega
    have hx9 := NB.encU_len hx
    have hy9 := NB.encU_len hy
    have hb9 := NB.encU_len (x := b.length) (by omega)
    have hb10 : (encB b).length ≤ 2000 := by simp [encB]; omega
    have hrow := NB.rw_new w [.int .u64 (x : Int), .int .u64 (y : Int), .slice a n c] 34 rfl
    have hB1 := oneB w (.cells #[.int .u64 (x : Int), .int .u64 (y : Int), .slice a n c] 34)
    simp only [List.toArray] at hrow
    go_enter Try.func24, Try.ntmps24
    go_wp2_with fail
    refine (wnew_any _).mono ?_
    rintro e w1 ⟨p, F1, rfl, hW1, hb1⟩
    have row1 := hrow.below hb1
    have B1 := NB.bel hB1 hb1 hB1.size
    have hoff : Off F1 w1 a n c b := Off.old hr B1 (fun k hk => Nat.le_trans hB1.size (hW1.foot k hk).1)
    have hbase := hB1.size
    have hG : ∀ F bs w', HasW w' (w.alloc (.cells #[.int .u64 (x : Int), .int .u64 (y : Int), .slice a n c] 34)).heap.size p F bs → ¬ F w.heap.size := fun F bs w' h hk => by have := (h.foot _ hk).1; simp at this; omega
    have hbx : (w.alloc (.cells #[.int .u64 (x : Int), .int .u64 (y : Int), .slice a n c] 34)).heap.size = w.heap.size + 1 := by simp
    clear hrow hB1 hb1
    generalize (w.alloc (.cells #[.int .u64 (x : Int), .int .u64 (y : Int), .slice a n c] 34)).heap.size = base at *
    obtain ⟨c0, c1, c2, _⟩ := NB.rw3 row1
    go_wp2_with fail
    refine (wuint_any _ _ _ _ _ x hx hW1 (by simp)).mono ?_
    rintro e w2 ⟨rfl, F2, hW2, hS2⟩
    rw [List.nil_append] at hW2
    have row2 := row1.keep hS2.kp (hG _ _ _ hW1)
    have B2 := NB.bel B1 (hW1.low hS2) hbase
    have off2 := hoff.step hS2
    clear c0 c1 c2 hW1 B1 hoff row1
    obtain ⟨c0, c1, c2, _⟩ := NB.rw3 row2
    go_wp2_with fail
    refine (wuint_any _ _ _ _ _ y hy hW2 (by omega)).mono ?_
    rintro e w3 ⟨rfl, F3, hW3, hS3⟩
    have row3 := row2.keep hS3.kp (hG _ _ _ hW2)
    have B3 := NB.bel B2 (hW2.low hS3) hbase
    have off3 := off2.step hS3
    clear c0 c1 c2 hW2 B2 off2 row2
    obtain ⟨c0, c1, c2, _⟩ := NB.rw3 row3
    go_wp2_with fail
    refine (wbytes_any _ _ _ _ _ _ _ _ _ hW3 off3 (by simp; omega)).mono ?_
    rintro e w4 ⟨rfl, F4, hW4, hS4⟩
    have B4 := NB.bel B3 (hW3.low hS4) hbase
    clear c0 c1 c2 hW3 B3 off3 row3
    have hZ : (encU x ++ encU y ++ encB b).length ≤ 5000 := by simp; omega
    generalize encU x ++ encU y ++ encB b = Z at *
    go_wp2_with fail
    refine (wout_any _ _ _ _ _ hW4 (by omega)).mono ?_
    rintro e w5 ⟨a5, c5, rfl, ho5, hb5⟩
    go_wp2_with fail
    go_ret2
    exact ⟨a5, c5, rfl, NB.own_mono ho5 B4.size, NB.bel B4 hb5 B4.size⟩

theorem two_lt {w : World} {g g' : Nat} (h : g < w.heap.size) (h' : g' < w.heap.size) : ∀ k, (k = g ∨ k = g') → k < w.heap.size := by
  rintro k (rfl | rfl)
  · exact h
  · exact h'

/-- An entry and an error. -/
def EntE (w : World) (r : En × Int) (e : Ending) (w' : World) : Prop :=
  ∃ a n c, e = .returned (.tuple #[.agg #[.int .u64 (r.1.1 : Int), .int .u64 (r.1.2.1 : Int), .slice a n c], .int .i64 r.2]) ∧ NB.RdB w' a n c r.1.2.2 ∧ Below w.heap.size w w'

set_option maxHeartbeats 1000000 in
theorem dget_any (w : World) (a : Option Addr) (n c : Nat) (b : List UInt8) (hr : NB.RdB w a n c b) (hl : n ≤ 100000000) :
    Calls Try.prog 31 #[.slice a n c] w (EntE w (getM b)) := by
  have hsz := NB.RdB.size hr
  have hu1 := uint_left ⟨b, 0⟩
  have hu2 := uint_left (Rr.uint ⟨b, 0⟩).1
  have hq : getM b = if (((Rr.uint ⟨b, 0⟩).1.uint).1.bytes 1024).1.fin ≠ 0 then ((0, 0, []), (((Rr.uint ⟨b, 0⟩).1.uint).1.bytes 1024).1.fin) else (((Rr.uint ⟨b, 0⟩).2, ((Rr.uint ⟨b, 0⟩).1.uint).2, (((Rr.uint ⟨b, 0⟩).1.uint).1.bytes 1024).2), 0) := rfl
  have ct1 := fun w base p F h => ruint_any w base p F ⟨b, 0⟩ h
  generalize Rr.uint ⟨b, 0⟩ = u at *
  have ct2 := fun w base p F h => ruint_any w base p F u.1 h
  generalize u.1.uint = v at *
  have ct3 := fun w base p F h => rbytes_any w base p F v.1 1024 (by omega) h (by simp at hu1; omega)
  generalize v.1.bytes 1024 = t at *
  have HQ := Go.Lib.hid hq; have C1 := Go.Lib.hid ct1; have C2 := Go.Lib.hid ct2; have C3 := Go.Lib.hid ct3
  clear hq ct1 ct2 ct3 hu1 hu2
  generalize getM b = R at *
  go_enter Try.func31, Try.ntmps31
  go_wp2_with fail
  refine (rnew_any _ _ _ _ _ (hr.below (oneB _ _)) (by omega)).mono ?_
  rintro e w1 ⟨p, F1, rfl, hR1, hb1⟩
  have hA0 := (NB.rw_new w [.int .u64 0, .int .u64 0, .slice none 0 0] 34 rfl).below hb1
  have B1 := NB.bel (oneB _ _) hb1 (oneB w (.cells #[.int .u64 0, .int .u64 0, .slice none 0 0] 34)).size
  have hbase := (oneB w (.cells #[.int .u64 0, .int .u64 0, .slice none 0 0] 34)).size
  have hbx : (w.alloc (.cells #[.int .u64 0, .int .u64 0, .slice none 0 0] 34)).heap.size = w.heap.size + 1 := by simp
  clear hb1
  generalize (w.alloc (.cells #[.int .u64 0, .int .u64 0, .slice none 0 0] 34)).heap.size = base at *
  have hE2 := NB.rw_new w1 [.int .u64 0, .int .u64 0, .slice none 0 0] 34 rfl
  have hA2 := hA0.below (oneB w1 (.cells #[.int .u64 0, .int .u64 0, .slice none 0 0] 34))
  have hR2 := hR1.below (oneB w1 (.cells #[.int .u64 0, .int .u64 0, .slice none 0 0] 34))
  have B2 := B1.alloc B1.size (.cells #[.int .u64 0, .int .u64 0, .slice none 0 0] 34)
  have hd2 : Dis (fun k => k = w1.heap.size ∨ k = w.heap.size) F1 := fun k hk hf => by
    have := hR1.foot k hf
    rcases hk with rfl | rfl <;> omega
  have hE := w1.heap.size
  have hGA : w.heap.size ≤ w1.heap.size := B1.size
  have hne : w1.heap.size ≠ w.heap.size := by have := hA0.lt; omega
  simp only [List.toArray] at hE2
  go_wp2_with fail
  generalize w1.alloc (.cells #[.int .u64 0, .int .u64 0, .slice none 0 0] 34) = w2 at *
  clear hA0 hR1 B1
  generalize w1.heap.size = G at *
  refine (C1.out _ _ _ _ hR2).mono ?_
  rintro e w3 ⟨rfl, F3, hR3, hS3⟩
  have hd3 := hd2.step (two_lt hE2.lt hA2.lt) hS3
  have hE3 := hE2.keep hS3.kp (hd2 G (.inl rfl))
  have hA3 := hA2.keep hS3.kp (hd2 _ (.inr rfl))
  have B3 := NB.bel B2 (hR2.low hS3) hbase
  clear hd2 hE2 hA2 hR2 B2
  obtain ⟨c0, c1, c2, f0, f1, f2⟩ := NB.rw3 hE3
  go_wp2_with fail
  have hE4 := hE3.set 0 (.int .u64 (u.2 : Int))
  have hA4 := hA3.other (Ne.symm hne) 0 (.int .u64 (u.2 : Int))
  have K4 : Kp (fun k => k = G) w3 (w3.setCell ⟨G, 0, none⟩ (.int .u64 (u.2 : Int))) := (Kp.refl (fun k => k = G) w3).setCell (x := ⟨G, 0, none⟩) (.inl rfl) _
  have hR4 := hR3.keep K4 (fun k hk e => hd3 k (.inl e) hk)
  have B4 := B3.setCell (p := ⟨G, 0, none⟩) hGA (.int .u64 (u.2 : Int))
  have hd4 := hd3
  clear hE3 hA3 hR3 B3 K4 c0 c1 c2 f0 f1 f2
  generalize w3.setCell ⟨G, 0, none⟩ (.int .u64 (u.2 : Int)) = w4 at *
  refine (C2.out _ _ _ _ hR4).mono ?_
  rintro e w5 ⟨rfl, F5, hR5, hS5⟩
  have hd5 := hd4.step (two_lt hE4.lt hA4.lt) hS5
  have hE5 := hE4.keep hS5.kp (hd4 G (.inl rfl))
  have hA5 := hA4.keep hS5.kp (hd4 _ (.inr rfl))
  have B5 := NB.bel B4 (hR4.low hS5) hbase
  clear hd4 hE4 hA4 hR4 B4
  obtain ⟨c0, c1, c2, f0, f1, f2⟩ := NB.rw3 hE5
  go_wp2_with fail
  have hE6 := hE5.set 1 (.int .u64 (v.2 : Int))
  have hA6 := hA5.other (Ne.symm hne) 1 (.int .u64 (v.2 : Int))
  have K6 : Kp (fun k => k = G) w5 (w5.setCell ⟨G, 1, none⟩ (.int .u64 (v.2 : Int))) := (Kp.refl (fun k => k = G) w5).setCell (x := ⟨G, 1, none⟩) (.inl rfl) _
  have hR6 := hR5.keep K6 (fun k hk e => hd5 k (.inl e) hk)
  have B6 := B5.setCell (p := ⟨G, 1, none⟩) hGA (.int .u64 (v.2 : Int))
  have hd6 := hd5
  clear hE5 hA5 hR5 B5 K6 c0 c1 c2 f0 f1 f2
  generalize w5.setCell ⟨G, 1, none⟩ (.int .u64 (v.2 : Int)) = w6 at *
  refine (C3.out _ _ _ _ hR6).mono ?_
  rintro e w7 ⟨a7, c7, F7, rfl, ho7, hR7, hS7, hf7⟩
  have hd7 := hd6.step (two_lt hE6.lt hA6.lt) hS7
  have hE7 := hE6.keep hS7.kp (hd6 G (.inl rfl))
  have hA7 := hA6.keep hS7.kp (hd6 _ (.inr rfl))
  have B7 := NB.bel B6 (hR6.low hS7) hbase
  have hnot : ∀ b o, a7 = some ⟨b, o, none⟩ → t.2 ≠ [] → ¬ (b = G ∨ b = w.heap.size) := by
    obtain ⟨a1, c1, e1, hr1, hl1, _⟩ := NB.rd_of_own ho7
    cases e1
    intro b o e _ hb
    have := (hl1 b o e).1
    rcases hb with rfl | rfl
    · have := hE6.lt; omega
    · have := hA6.lt; omega
  clear hd6 hE6 hA6 hR6 B6
  obtain ⟨c0, c1, c2, f0, f1, f2⟩ := NB.rw3 hE7
  go_wp2_with fail
  have hE8 := hE7.set 2 (.slice a7 t.2.length c7)
  have hA8 := hA7.other (Ne.symm hne) 2 (.slice a7 t.2.length c7)
  have K8 : Kp (fun k => k = G ∨ k = w.heap.size) w7 (w7.setCell ⟨G, 2, none⟩ (.slice a7 t.2.length c7)) := (Kp.refl _ w7).setCell (x := ⟨G, 2, none⟩) (.inl (.inl rfl)) _
  have hR8 := hR7.keep K8 (fun k hk e => hd7 k e hk)
  have hr8 := K8.rdB hf7.rd hnot
  have B8 := B7.setCell (p := ⟨G, 2, none⟩) hGA (.slice a7 t.2.length c7)
  clear hE7 hA7 hR7 B7 K8 c0 c1 c2 f0 f1 f2 hf7 ho7 hS7 hS5 hS3
  generalize w7.setCell ⟨G, 2, none⟩ (.slice a7 t.2.length c7) = w8 at *
  refine (rend_any _ _ _ _ _ hR8).mono ?_
  rintro e w9 ⟨rfl, e9⟩
  subst w9
  obtain ⟨c0, c1, c2, f0, f1, f2⟩ := NB.rw3 hE8
  obtain ⟨d0, d1, d2, g0, g1, g2⟩ := NB.rw3 hA8
  have hltA := hA8.lt
  clear hE8 hA8 hR8 hd7 C1 C2 C3 hE hbx hbase hr hl hsz
  by_cases hf : t.1.fin = 0
  · have hfb : (t.1.fin != 0) = false := by simp [hf]
    have hR : R = ((u.2, v.2, t.2), 0) := by rw [HQ.out, if_neg (by simp [hf])]
    have HF := Go.Lib.hid hf; clear hf HQ
    go_wp2_with fail
    refine bodyPost_ret (v := .tuple #[.agg #[.int .u64 (u.2 : Int), .int .u64 (v.2 : Int), .slice a7 t.2.length c7], .int .i64 0]) (by simp [results, Try.results31, go_sem, d0, d1, d2, hltA]) rfl ?_
    rw [hR]
    have BZ := ((B8.setCell (p := ⟨w.heap.size, 0, none⟩) (Nat.le_refl _) (.int .u64 (u.2 : Int))).setCell (p := ⟨w.heap.size, 1, none⟩) (Nat.le_refl _) (.int .u64 (v.2 : Int))).setCell (p := ⟨w.heap.size, 2, none⟩) (Nat.le_refl _) (.slice a7 t.2.length c7)
    have KZ : Kp (fun k => k = G ∨ k = w.heap.size) w8 _ := (((Kp.refl _ w8).setCell (x := ⟨w.heap.size, 0, none⟩) (.inl (.inr rfl)) (.int .u64 (u.2 : Int))).setCell (x := ⟨w.heap.size, 1, none⟩) (.inl (.inr rfl)) (.int .u64 (v.2 : Int))).setCell (x := ⟨w.heap.size, 2, none⟩) (.inl (.inr rfl)) (.slice a7 t.2.length c7)
    exact ⟨a7, t.2.length, c7, rfl, KZ.rdB hr8 hnot, BZ⟩
  · have hfb : (t.1.fin != 0) = true := by simp [hf]
    have hR : R = ((0, 0, []), t.1.fin) := by rw [HQ.out, if_pos hf]
    have HF := Go.Lib.hid hf; clear hf HQ
    go_wp2_with fail
    refine bodyPost_ret (v := .tuple #[.agg #[.int .u64 0, .int .u64 0, .slice none 0 0], .int .i64 t.1.fin]) (by simp [results, Try.results31, go_sem, d0, d1, d2, hltA]) rfl ?_
    rw [hR]
    have BZ := ((B8.setCell (p := ⟨w.heap.size, 0, none⟩) (Nat.le_refl _) (.int .u64 0)).setCell (p := ⟨w.heap.size, 1, none⟩) (Nat.le_refl _) (.int .u64 0)).setCell (p := ⟨w.heap.size, 2, none⟩) (Nat.le_refl _) (.slice none 0 0)
    exact ⟨none, 0, 0, rfl, Rd.nil_mk, BZ⟩
end Go.Proofs.Ytjfidhjnbcmhfaa
namespace Go.Proofs.Ytjfidhjnbcmhfaa
open Go.NB (Rr encU encB B64)

theorem uint_take {x : Nat} (hx : B64 x) (l : List UInt8) (k : Nat) : ((Rr.uint ⟨(encU x ++ l).take k, 0⟩).1.e = 10 ∧ k < (encU x).length) ∨ ((encU x).length ≤ k ∧ Rr.uint ⟨(encU x ++ l).take k, 0⟩ = (⟨l.take (k - (encU x).length), 0⟩, x)) := by
  rcases Nat.lt_or_ge k (encU x).length with h | h
  · refine .inl ⟨?_, h⟩
    rw [List.take_append_of_le_length (by omega)]
    exact (Rr.uint_short hx k h).1
  · refine .inr ⟨h, ?_⟩
    rw [List.take_append, List.take_of_length_le h]
    exact Rr.uint_enc hx _
theorem get_put {x y : Nat} {b : List UInt8} (hx : B64 x) (hy : B64 y) (hb : b.length ≤ 1024) : getM (encU x ++ encU y ++ encB b) = ((x, y, b), 0) := by
  have e3 := Rr.bytes_enc (b := b) (by omega) [] (most := 1024) (by omega)
  rw [List.append_nil] at e3
  simp only [getM, List.append_assoc, Rr.uint_enc hx, Rr.uint_enc hy, e3, Rr.fin_ok]
  simp
theorem get_more {x y : Nat} {b : List UInt8} (hx : B64 x) (hy : B64 y) (hb : b.length ≤ 1024) (z : UInt8) : (getM (encU x ++ encU y ++ encB b ++ [z])).2 = 12 := by
  have e3 := Rr.bytes_enc (b := b) (by omega) [z] (most := 1024) (by omega)
  simp only [getM, List.append_assoc, Rr.uint_enc hx, Rr.uint_enc hy, e3, Rr.fin_ok]
  simp
theorem get_short {x y : Nat} {b : List UInt8} (hx : B64 x) (hy : B64 y) (hb : b.length ≤ 1024) (k : Nat) (hk : k < (encU x ++ encU y ++ encB b).length) : (getM ((encU x ++ encU y ++ encB b).take k)).2 = 10 := by
  have fin10 : ∀ r : Rr, r.e = 10 → r.fin = 10 := fun r h => by rw [Rr.fin_err (by omega), h]
  have key : ∀ t : Rr × List UInt8, t.1.e = 10 → ∀ u v : Nat, (if t.1.fin ≠ 0 then (((0, 0, []) : En), t.1.fin) else ((u, v, t.2), 0)).2 = 10 := fun t ht u v => by rw [fin10 _ ht]; rfl
  simp only [getM]
  apply key
  rw [List.append_assoc] at hk ⊢
  rcases uint_take hx (encU y ++ encB b) k with ⟨h1, _⟩ | ⟨h1, h2⟩
  · rw [Rr.uint_err (r := (Rr.uint ⟨(encU x ++ (encU y ++ encB b)).take k, 0⟩).1) (by omega), Rr.bytes_err (by simp only; omega)]
    exact h1
  · rw [h2]
    simp only
    rcases uint_take hy (encB b) (k - (encU x).length) with ⟨h3, _⟩ | ⟨h3, h4⟩
    · rw [Rr.bytes_err (by omega)]
      exact h3
    · rw [h4]
      simp only [encB]
      have hbl : B64 b.length := by unfold B64; omega
      have hk' : k - (encU x).length - (encU y).length < (encU b.length).length + b.length := by simp [encB] at hk; omega
      generalize k - (encU x).length - (encU y).length = m at *
      rcases uint_take hbl b m with ⟨h5, _⟩ | ⟨h5, h6⟩
      · have : Rr.bytes ⟨(encU b.length ++ b).take m, 0⟩ 1024 = ((Rr.uint ⟨(encU b.length ++ b).take m, 0⟩).1, []) := by
          simp only [Rr.bytes]
          rw [if_pos (by omega)]
        rw [this]
        exact h5
      · have : Rr.bytes ⟨(encU b.length ++ b).take m, 0⟩ 1024 = (⟨b.take (m - (encU b.length).length), 10⟩, []) := by
          simp only [Rr.bytes, h6]
          rw [if_neg (by simp), if_neg (by omega)]
          simp only [Rr.raw]
          rw [if_neg (by omega), Int.toNat_natCast, Rr.take_short (by rw [List.length_take]; omega)]
        rw [this]
/-- What is got is put. -/
theorem bytes_cases (b : List UInt8) (h : (Rr.bytes ⟨b, 0⟩ 1024).1.fin = 0) : b = encB (Rr.bytes ⟨b, 0⟩ 1024).2 ∧ (Rr.bytes ⟨b, 0⟩ 1024).2.length ≤ 1024 := by
  have nz : ∀ r : Rr, r.e ≠ 0 → r.fin ≠ 0 := fun r h => by rw [Rr.fin_err h]; exact h
  rcases Rr.uint_cases b with ⟨n, l, hn, e, hu⟩ | ⟨he, _⟩
  · have hq : Rr.bytes ⟨b, 0⟩ 1024 = if (1024 : Int) < 0 ∨ (1024 : Int) < (n : Int) then (⟨l, 13⟩, []) else Rr.raw ⟨l, 0⟩ n := by
      simp only [Rr.bytes, hu, Rr.fail_ok]
      rw [if_neg (by simp)]
    rw [hq] at h ⊢
    split at h
    · exact absurd h (nz _ (by simp))
    · rename_i hn1
      rw [if_neg hn1]
      simp only [Rr.raw] at h ⊢
      rw [if_neg (by omega), Int.toNat_natCast] at h ⊢
      rcases Nat.lt_or_ge l.length n with hl | hl
      · rw [Rr.take_short hl] at h
        exact absurd h (nz _ (by simp))
      · rw [Rr.take_ok hl] at h ⊢
        rw [Rr.fin_ok] at h
        split at h
        · rename_i hd
          have hll : l.length = n := by
            have := congrArg List.length hd
            simp at this; omega
          simp only
          rw [List.take_of_length_le (by omega)]
          exact ⟨by rw [encB, hll, e], by omega⟩
        · simp at h
  · have hq : Rr.bytes ⟨b, 0⟩ 1024 = ((Rr.uint ⟨b, 0⟩).1, []) := by
      simp only [Rr.bytes]
      rw [if_pos he]
    rw [hq] at h
    exact absurd h (nz _ he)
theorem get_cases (b : List UInt8) (h : (getM b).2 = 0) : B64 (getM b).1.1 ∧ B64 (getM b).1.2.1 ∧ (getM b).1.2.2.length ≤ 1024 ∧ b = encU (getM b).1.1 ++ encU (getM b).1.2.1 ++ encB (getM b).1.2.2 := by
  have nz : ∀ r : Rr, r.e ≠ 0 → r.fin ≠ 0 := fun r h => by rw [Rr.fin_err h]; exact h
  have hf : (((Rr.uint ⟨b, 0⟩).1.uint).1.bytes 1024).1.fin = 0 := by
    by_cases hz : (((Rr.uint ⟨b, 0⟩).1.uint).1.bytes 1024).1.fin = 0
    · exact hz
    · simp only [getM] at h
      rw [if_pos hz] at h
      exact h
  have hg : getM b = (((Rr.uint ⟨b, 0⟩).2, ((Rr.uint ⟨b, 0⟩).1.uint).2, (((Rr.uint ⟨b, 0⟩).1.uint).1.bytes 1024).2), 0) := by
    simp only [getM]
    rw [if_neg (by simp [hf])]
  rw [hg]
  rcases Rr.uint_cases b with ⟨x, l, hx, e, hu⟩ | ⟨he, _⟩
  · rw [hu] at hf ⊢
    simp only at hf ⊢
    rcases Rr.uint_cases l with ⟨y, l2, hy, e2, hv⟩ | ⟨he, _⟩
    · rw [hv] at hf ⊢
      simp only at hf ⊢
      obtain ⟨h1, h2⟩ := bytes_cases l2 hf
      exact ⟨hx, hy, h2, by rw [e, e2, List.append_assoc]; congr 2⟩
    · rw [Rr.bytes_err (by exact he)] at hf
      exact absurd hf (nz _ he)
  · rw [Rr.uint_err (r := (Rr.uint ⟨b, 0⟩).1) he, Rr.bytes_err (by exact he)] at hf
    exact absurd hf (nz _ he)
theorem get_bad (b : List UInt8) (h : (getM b).2 ≠ 0) : (getM b).1 = (0, 0, []) := by
  simp only [getM] at h ⊢
  split at h
  · rename_i hz
    rw [if_pos hz]
  · simp at h
end Go.Proofs.Ytjfidhjnbcmhfaa
