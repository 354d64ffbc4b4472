/- General laws that the texts of this seat share: aggregates loaded from and stored into a block, bytes that a slice reads as, what a call keeps of memory. No program in sight. -/
import Derived.WalkKit
import Derived.WalkSpells
import Derived.WalkLawsBesides
import Derived.BigQuiet
import Derived.Lib.Hide
import Derived.Laws.CopyOwn
import Derived.Lib.SlBytesConst
import Derived.Laws.AppendOwnNone
import Derived.Deep.QuietTactic
namespace Go.NB
open Go Go.RowKit

theorem addr_add (g o j : Nat) : (⟨g, o, none⟩ : Addr).add j = ⟨g, o + j, none⟩ := by
  unfold Addr.add; split <;> simp_all

/-- An operation whose guard (if it has one) says yes. -/
theorem wpList_wanted {P : Program} {ops : Array Oper} {Q : Exit → Act → World → Prop} {a : Act} {w : World} {rest : List Oper} {o : Oper} (hw : Region.wanted o (yielded ops a.tmps) = true)
    (h : ∀ K : Act → World → Prop, (∀ a w, wpList P ops Q rest a w → K a w) → o.wp P a w K Q) : wpList P ops Q (o :: rest) a w :=
  wpList_step fun K hK => by rw [if_pos hw]; exact h K hK

theorem ext_all (a : Array Value) (m : Nat) (h : a.size = m) : a.extract 0 (0 + m) = a := by
  subst h; simp

section
variable {P : Program} {w : World}

/-- An aggregate of m cells, loaded from the middle of a block. -/
theorem wp_load_agg {o : Oper} {a : Act} {K : Act → World → Prop} {Q : Exit → Act → World → Prop} (ty : TypeId) (x : Operand) (ho : o.op = .load ty x)
    (g off m : Nat) (hx : a.eval x = .pointer (some ⟨g, off, none⟩)) (t : TypeId) (cur : Array Value) (fr : Nat × Nat) (d : TypeDesc) (hg : w.heap[g]? = some (.cells cur t fr))
    (hu : P.underlying ty = some d) (hd : (match d with | .struct _ | .array _ _ => true | _ => false) = true) (hi : (P.info? ty).map (·.size) = some m) (hm : off + m ≤ cur.size)
    (h : K (a.put o.dst (.agg (cur.extract off (off + m)))) w) : o.wp P a w K Q := by
  have hl : (loadCells ⟨g, off, none⟩ (cur.extract off (off + m)).toList.length).run P w = .ok (cur.extract off (off + m)).toList.toArray w :=
    run_loadCells_list (P := P) w ⟨g, off, none⟩ _ (fun j v hv => by
      rw [addr_add, cell_of_row w g (off + j) cur t fr hg]
      simp only [Array.getElem?_toList] at hv
      rw [Array.getElem?_extract] at hv
      split at hv
      · exact hv
      · cases hv)
  have hlen : (cur.extract off (off + m)).toList.length = m := by simp; omega
  rw [hlen] at hl
  simp only [Array.toArray_toList] at hl
  have hrun : (loadVar ty ⟨g, off, none⟩).run P w = .ok (.agg (cur.extract off (off + m))) w := by
    cases hq : P.info? ty with
    | none => simp [hq] at hi
    | some i =>
      have hs : i.size = m := by simpa [hq] using hi
      have hagg : (isAgg ty).run P w = .ok true w := by
        unfold isAgg
        rw [Sem.run_bind, run_underlying hu w]
        cases d <;> simp_all
      simp [loadVar, Sem.run_bind, hagg, sizeOf, typeInfo, hq, hs, hl]
  unfold Oper.wp execOp
  simp only [ho, hx, Instr.loadAt, Instr.sureAddr, Sem.run_bind, Sem.run_pure, Result.andThen_ok, hrun]
  exact h

theorem wpList_load_agg {ops : Array Oper} {rest : List Oper} {o : Oper} {a : Act} {Q : Exit → Act → World → Prop} (hgd : Region.wanted o (yielded ops a.tmps) = true) (ty : TypeId) (x : Operand) (ho : o.op = .load ty x)
    (g off m : Nat) (hx : a.eval x = .pointer (some ⟨g, off, none⟩)) (t : TypeId) (cur : Array Value) (fr : Nat × Nat) (d : TypeDesc) (hg : w.heap[g]? = some (.cells cur t fr))
    (hu : P.underlying ty = some d) (hd : (match d with | .struct _ | .array _ _ => true | _ => false) = true) (hi : (P.info? ty).map (·.size) = some m) (hm : off + m ≤ cur.size)
    (vs : Array Value) (hvs : cur.extract off (off + m) = vs) (h : wpList P ops Q rest (a.put o.dst (.agg vs)) w) : wpList P ops Q (o :: rest) a w :=
  wpList_wanted hgd fun _ hK => wp_load_agg ty x ho g off m hx t cur fr d hg hu hd hi hm (hK _ _ (hvs ▸ h))

/-- Cells laid over a part of a row. -/
def splice (cur : Array Value) (off : Nat) (cs : List Value) : Array Value := (cur.toList.take off ++ cs ++ cur.toList.drop (off + cs.length)).toArray

theorem splice_all (cur cs : Array Value) (h : cur.size = cs.size) : splice cur 0 cs.toList = cs := by
  unfold splice
  rw [List.drop_of_length_le (by simp [h])]
  simp
theorem splice_size (cur : Array Value) (off : Nat) (cs : List Value) (h : off + cs.length ≤ cur.size) : (splice cur off cs).size = cur.size := by
  unfold splice; simp; omega

/-- An aggregate stored into the middle of a block. -/
theorem wp_store_agg {o : Oper} {a : Act} {K : Act → World → Prop} {Q : Exit → Act → World → Prop} (ty : TypeId) (x y : Operand) (ho : o.op = .store ty x y) (hdst : o.dst = none)
    (g off : Nat) (cs : Array Value) (hx : a.eval x = .pointer (some ⟨g, off, none⟩)) (hy : a.eval y = .agg cs) (t : TypeId) (cur : Array Value) (hg : w.heap[g]? = some (.cells cur t (0, 0)))
    (hi : (P.info? ty).map (·.size) = some cs.size) (hm : off + cs.size ≤ cur.size) (h1 : ∀ v ∈ cs.toList, v.oneCell' = true)
    (h : K a (w.setRow g (splice cur off cs.toList))) : o.wp P a w K Q := by
  have hst := run_storeCells_at P g off t cs.toList 0 cur w hg (by simpa using hm) h1
  have hrun : (storeVar ty ⟨g, off, none⟩ (.agg cs)).run P w = .ok () (w.setRow g (splice cur off cs.toList)) := by
    cases hq : P.info? ty with
    | none => simp [hq] at hi
    | some i =>
      have hs : i.size = cs.size := by simpa [hq] using hi
      simp only [Nat.add_zero] at hst
      simp [storeVar, Value.cells, Sem.run_bind, sizeOf, typeInfo, hq, hs, splice, hst]
  unfold Oper.wp execOp
  simp only [ho, hx, hy, Instr.storeAt, Instr.sureAddr, Sem.run_bind, Sem.run_pure, Result.andThen_ok, hrun]
  rw [Oper.upon_skip]
  simpa [hdst, Act.put] using h

theorem wpList_store_agg {ops : Array Oper} {rest : List Oper} {o : Oper} {a : Act} {Q : Exit → Act → World → Prop} (hgd : Region.wanted o (yielded ops a.tmps) = true) (ty : TypeId) (x y : Operand) (ho : o.op = .store ty x y) (hdst : o.dst = none)
    (g off : Nat) (cs : Array Value) (hx : a.eval x = .pointer (some ⟨g, off, none⟩)) (hy : a.eval y = .agg cs) (t : TypeId) (cur : Array Value) (hg : w.heap[g]? = some (.cells cur t (0, 0)))
    (hi : (P.info? ty).map (·.size) = some cs.size) (hm : off + cs.size ≤ cur.size) (h1 : ∀ v ∈ cs.toList, v.oneCell' = true)
    (h : wpList P ops Q rest a (w.setRow g (splice cur off cs.toList))) : wpList P ops Q (o :: rest) a w :=
  wpList_wanted hgd fun _ hK => wp_store_agg ty x y ho hdst g off cs hx hy t cur hg hi hm h1 (hK _ _ h)

/-- The same, the world behind the store under a name of its own. -/
theorem wpList_store_agg_any {ops : Array Oper} {rest : List Oper} {o : Oper} {a : Act} {Q : Exit → Act → World → Prop} (hgd : Region.wanted o (yielded ops a.tmps) = true) (ty : TypeId) (x y : Operand) (ho : o.op = .store ty x y) (hdst : o.dst = none)
    (g off : Nat) (cs : Array Value) (hx : a.eval x = .pointer (some ⟨g, off, none⟩)) (hy : a.eval y = .agg cs) (t : TypeId) (cur : Array Value) (hg : w.heap[g]? = some (.cells cur t (0, 0)))
    (hi : (P.info? ty).map (·.size) = some cs.size) (hm : off + cs.size ≤ cur.size) (h1 : ∀ v ∈ cs.toList, v.oneCell' = true) (vs : Array Value) (hvs : splice cur off cs.toList = vs)
    (h : ∀ w', w.grownBy w' (some g) → w'.heap[g]? = some (.cells vs t (0, 0)) → w'.heap.size = w.heap.size → wpList P ops Q rest a w') : wpList P ops Q (o :: rest) a w :=
  wpList_store_agg hgd ty x y ho hdst g off cs hx hy t cur hg hi hm h1 (h _ ⟨rfl, rfl, rfl, by simp, fun k _ hk => setRow_other _ _ _ _ (fun e => hk (by rw [e]))⟩ (by rw [setRow_heap _ _ _ _ t (0, 0) hg, hvs]) (by simp))
end

theorem take_getD {α : Type} (l : List α) (k : Nat) (h : k < l.length) {d : α} : l.take (k+1) = l.take k ++ [l.getD k d] := by
  rw [List.take_succ_eq_append_getElem h]; simp [List.getD, h]
theorem below_drewN {B : Nat} {a w : World} (h : Below B a w) (n : Nat) : Below B a (w.drewN n) := ⟨h.os, h.tape, h.output, h.size, h.block⟩

/-! ### What a slice reads as: its elements' cells -/

/-- The slice (a, n, c) of elements of 'size' cells each reads as the cells 'vs'. -/
structure Rd (size : Nat) (w : World) (a : Option Addr) (n c : Nat) (vs : List Value) : Prop where
  len : vs.length = n * size
  le : n ≤ c
  max : c ≤ maxLen
  nil : a = none → c = 0
  adr : 0 < c → ∃ b o, a = some ⟨b, o, none⟩
  cell : ∀ b o, a = some ⟨b, o, none⟩ → ∀ i v, vs[i]? = some v → w.cell? ⟨b, o + i, none⟩ = some v

section
variable {size : Nat} {w w' : World} {a : Option Addr} {n c : Nat} {vs : List Value}

theorem Rd.bound (h : Rd size w a n c vs) : n ≤ 9223372036854775807 ∧ c ≤ 9223372036854775807 := by
  have := h.le; have := h.max; unfold maxLen at this; omega

theorem Rd.pos (h : Rd size w a n c vs) (hn : 0 < n) :
    ∃ b o, a = some ⟨b, o, none⟩ ∧ ∀ i v, vs[i]? = some v → w.cell? ⟨b, o + i, none⟩ = some v := by
  obtain ⟨b, o, e⟩ := h.adr (by have := h.le; omega)
  exact ⟨b, o, e, h.cell b o e⟩

/-- It hangs on its own block alone. -/
theorem Rd.keep (h : Rd size w a n c vs) (hb : ∀ b o, a = some ⟨b, o, none⟩ → vs ≠ [] → w'.heap[b]? = w.heap[b]?) : Rd size w' a n c vs :=
  ⟨h.len, h.le, h.max, h.nil, h.adr, fun b o e i v hi => (World.cell?_of_block (hb b o e (by intro e; simp [e] at hi))).trans (h.cell b o e i v hi)⟩

theorem Rd.lt (h : Rd size w a n c vs) (b o : Nat) (e : a = some ⟨b, o, none⟩) (hn : vs ≠ []) : b < w.heap.size := by
  cases vs with
  | nil => exact absurd rfl hn
  | cons v vs => exact World.block_lt_of_cell? w _ (h.cell b o e 0 v rfl)

theorem Rd.below (h : Rd size w a n c vs) (hb : Below w.heap.size w w') : Rd size w' a n c vs :=
  h.keep fun b o e hn => hb.block b (h.lt b o e hn)

theorem Rd.nil_mk : Rd size w none 0 0 [] :=
  ⟨by simp, Nat.le_refl _, Nat.zero_le _, (fun _ => rfl), (fun h => absurd h (by omega)), (fun b o e => nomatch e)⟩

/-- A front of it, cut at its end. -/
theorem Rd.front (h : Rd size w a n c vs) (k : Nat) (hk : k ≤ n) : Rd size w a k k (vs.take (k * size)) :=
  ⟨by rw [List.length_take, h.len]; exact Nat.min_eq_left (Nat.mul_le_mul_right _ hk), Nat.le_refl _, Nat.le_trans hk (Nat.le_trans h.le h.max), (fun e => by have := h.nil e; have := h.le; omega), (fun hp => h.adr (by have := h.le; omega)), fun b o e i v hi => h.cell b o e i v (by
    rw [List.getElem?_take] at hi; split at hi
    · exact hi
    · cases hi)⟩

/-- A new block, from its head. -/
theorem rd_new (w : World) (cs : Array Value) (t : TypeId) (n : Nat) (h : cs.size = n * size) (hm : n ≤ maxLen) {fr : Nat × Nat} {g : Nat} (hg : g = w.heap.size) :
    Rd size (w.alloc (.cells cs t fr)) (some ⟨g, 0, none⟩) n n cs.toList := by
  subst hg
  exact ⟨by simpa using h, Nat.le_refl _, hm, (fun e => nomatch e), (fun _ => ⟨_, _, rfl⟩), fun b o e i v hi => by
    cases e
    rw [Nat.zero_add, cell_of_row _ _ _ _ t fr (heap_alloc_new w _)]
    simpa using hi⟩

/-- A front of it. -/
theorem Rd.take (h : Rd size w a n c vs) (k : Nat) (hk : k ≤ n) : Rd size w a k c (vs.take (k * size)) :=
  ⟨by rw [List.length_take, h.len]; exact Nat.min_eq_left (Nat.mul_le_mul_right _ hk), Nat.le_trans hk h.le, h.max, h.nil, h.adr, fun b o e i v hi => h.cell b o e i v (by
    rw [List.getElem?_take] at hi; split at hi
    · exact hi
    · cases hi)⟩
end

/-- A slice type's two rows of the program's table. -/
structure SlT (P : Program) (t e : TypeId) (z : Value) (size bytes : Nat) : Prop where
  ht : P.underlying t = some (.slice e)
  hi : ∃ i, P.info? e = some i ∧ i.zero = some z ∧ i.size = size ∧ i.bytes = bytes
  hz : z.cells.size = size
  hp : 0 < size

/-- 'append' onto a row of the call's own, from whatever reads as 'news'. -/
theorem wpList_append_rd {P : Program} {w : World} {ops : Array Oper} {rest : List Oper} {o : Oper} {a : Act} {Q : Exit → Act → World → Prop} (hgd : Region.wanted o (yielded ops a.tmps) = true) (s x : Operand) (t : TypeId)
    (ho : o.op = .call { callee := .builtin .append, args := #[s, x], argTypes := #[t, t] })
    (base : Nat) {e : TypeId} {z : Value} {size bytes : Nat} (T : SlT P t e z size bytes)
    (v : Value) (n : Nat) (xs : List Value) (hs : a.eval s = v) (hown : w.ownsRow base e size v n xs)
    (ad : Option Addr) (m c : Nat) (news : List Value) (hx : a.eval x = .slice ad m c) (hr : Rd size w ad m c news) (h1 : ∀ u ∈ news, u.oneCell' = true)
    (hbytes : (n + m) * bytes ≤ 140737488355328) (h63 : n + m ≤ maxLen) (hbase : base ≤ w.heap.size)
    (h : ∀ v' w', w'.ownsRow base e size v' (n + m) (xs ++ news) → w.grownBy w' v.ownBlock → wpList P ops Q rest (a.put o.dst v') w') : wpList P ops Q (o :: rest) a w := by
  obtain ⟨i, hi, hz, hsz, hby⟩ := T.hi
  refine wpList_wanted hgd fun K hK => ?_
  cases ad with
  | none =>
    have hc := hr.nil rfl
    have hle := hr.le
    obtain rfl : c = 0 := hc
    obtain rfl : m = 0 := by omega
    have : news = [] := List.eq_nil_of_length_eq_zero (by rw [hr.len]; simp)
    subst this
    have hrun := run_append_owned_none (P := P) (w := w) base t o.type e i size T.ht hi v n xs hown
    unfold Oper.wp
    simp [execOp, ho, resolve, invoke, builtin, hs, hx, hrun, Result.andThen]
    exact hK _ _ (h v w (by simpa using hown) (World.grownBy.refl _ _))
  | some x0 =>
    refine wp_append_own w s x t ho base e i z size bytes T.ht hi hz hsz hby T.hz T.hp v n xs hs hown x0 m c news hx hr.len ?_ h1 h63 hbytes hbase (fun v' w' h2 h3 _ => hK _ _ (h v' w' h2 h3))
    intro j u hu
    have hn : 0 < m := by
      rcases Nat.eq_zero_or_pos m with e | e
      · subst e
        have : news = [] := List.eq_nil_of_length_eq_zero (by rw [hr.len]; simp)
        subst this; simp at hu
      · exact e
    obtain ⟨b, o', e, hc⟩ := hr.pos hn
    cases e
    rw [addr_add]
    exact hc j u hu

/-- A row of the call's own reads as what it owns. -/
theorem rd_of_own {w : World} {base : Nat} {e : TypeId} {size : Nat} {v : Value} {n : Nat} {xs : List Value} (h : w.ownsRow base e size v n xs) :
    ∃ a c, v = .slice a n c ∧ Rd size w a n c xs ∧ (∀ b o, a = some ⟨b, o, none⟩ → base ≤ b ∧ b < w.heap.size) ∧ v.ownBlock = a.map (·.block) := by
  obtain ⟨h1, h2⟩ := h
  rcases h2 with ⟨rfl, rfl⟩ | ⟨g, cap, cur, rfl, hb, hg, hle, hm, hs, ht⟩
  · obtain rfl : xs = [] := List.eq_nil_of_length_eq_zero (by simpa using h1)
    exact ⟨none, 0, rfl, Rd.nil_mk, (fun b o e => nomatch e), rfl⟩
  · refine ⟨_, cap, rfl, ⟨h1, hle, hm, (fun e => nomatch e), (fun _ => ⟨g, 0, rfl⟩), ?_⟩, ?_, rfl⟩
    · intro b o e i v hi
      cases e
      rw [Nat.zero_add, cell_of_row w g i cur e (0, 0) hg]
      rw [← ht, List.getElem?_take] at hi
      split at hi
      · simpa using hi
      · cases hi
    · intro b o e
      cases e
      exact ⟨hb, (Array.getElem?_eq_some_iff.1 hg).1⟩

/-- What is owned from a block on is owned from an earlier one on. -/
theorem own_mono {w : World} {base base' : Nat} {e : TypeId} {size : Nat} {v : Value} {n : Nat} {xs : List Value} (h : w.ownsRow base e size v n xs) (hb : base' ≤ base) : w.ownsRow base' e size v n xs := by
  obtain ⟨h1, h2⟩ := h
  refine ⟨h1, ?_⟩
  rcases h2 with h2 | ⟨g, cap, cur, rfl, hg, r⟩
  · exact .inl h2
  · exact .inr ⟨g, cap, cur, rfl, Nat.le_trans hb hg, r⟩

/-! ### Bytes -/

def u8v (b : UInt8) : Value := .int .u8 (b.toNat : Int)
theorem u8v_one (bs : List UInt8) : ∀ u ∈ bs.map u8v, u.oneCell' = true := by
  intro u hu
  obtain ⟨_, _, rfl⟩ := List.mem_map.1 hu
  rfl

abbrev RdB (w : World) (a : Option Addr) (n c : Nat) (bs : List UInt8) : Prop := Rd 1 w a n c (bs.map u8v)
abbrev OwnB (w : World) (base : Nat) (e : TypeId) (v : Value) (bs : List UInt8) : Prop := w.ownsRow base e 1 v bs.length (bs.map u8v)

section
variable {w w' : World} {a : Option Addr} {n c : Nat} {bs : List UInt8}
theorem RdB.size (h : RdB w a n c bs) : bs.length = n := by have := h.len; simpa using this
theorem RdB.at (h : RdB w a n c bs) (hn : 0 < n) :
    ∃ b o, a = some ⟨b, o, none⟩ ∧ ∀ i, i < n → w.cell? ⟨b, o + i, none⟩ = some (.int .u8 ((bs.getD i 0).toNat : Int)) := by
  obtain ⟨b, o, e, hc⟩ := Rd.pos h hn
  refine ⟨b, o, e, fun i hi => hc i _ ?_⟩
  have hs := RdB.size h
  simp [u8v, List.getD, show i < bs.length by omega]
end

/-- b[:k], its capacity as it was. -/
theorem rdB_cut {w : World} {a : Option Addr} {n c : Nat} {bs : List UInt8} (h : RdB w a n c bs) (k : Nat) (hk : k ≤ n) : RdB w a k c (bs.take k) := by
  have := Rd.take h k hk
  rwa [Nat.mul_one, ← List.map_take] at this

/-- A call that answers bytes in new memory. -/
def FreshB (t : TypeId) (w : World) (bs : List UInt8) (e : Ending) (w' : World) : Prop :=
  ∃ a c, e = .returned (.slice a bs.length c) ∧ OwnB w' w.heap.size t (.slice a bs.length c) bs ∧ Below w.heap.size w w'

theorem freshB_mk {t : TypeId} {w w' : World} {bs : List UInt8} {v : Value} {n : Nat} {xs : List Value} (h : w'.ownsRow w.heap.size t 1 v n xs) (hx : xs = bs.map u8v) (hb : Below w.heap.size w w') : FreshB t w bs (.returned v) w' := by
  subst hx
  have hn : n = bs.length := by have := h.1; simpa using this.symm
  subst hn
  obtain ⟨a, c, rfl, _⟩ := rd_of_own h
  exact ⟨a, c, rfl, h, hb⟩

/-- A cut of a string that is written as a list. -/
@[go_sem] theorem str_ext (l : List UInt8) (i j : Nat) : (ByteArray.mk l.toArray).extract i j = ⟨((l.take j).drop i).toArray⟩ := by
  apply ByteArray.ext
  rw [ByteArray.data_extract, List.drop_take]
  simp

@[go_sem] theorem str_add (x y : List UInt8) : (ByteArray.mk x.toArray ++ ByteArray.mk y.toArray) = ByteArray.mk (x ++ y).toArray := ByteArray.mk_append_mk x y

/-- '[]byte' of a constant, wherever its row lies. -/
theorem run_bytes_const {P : Program} {t e : TypeId} (ht : P.underlying t = some (.slice e)) (he : P.underlying e = some (.int .u8)) (w : World) (C : Array Value) (n c b : Nat) (hb : b = w.heap.size) :
    (convert t t (.slice (some ⟨b, 0, none⟩) n c)).run P (w.alloc (.cells C e)) = .ok (.slice (some ⟨b, 0, none⟩) n c) (w.alloc (.cells C e (C.size, C.size + 1))) := by
  subst hb
  exact Go.Lib.run_convert_bytes_const w t e C n c ht he

/-- 'string(b)'. -/
theorem run_conv_str {P : Program} {w : World} {src dst e : TypeId} (hs : P.underlying src = some (.slice e)) (he : P.underlying e = some (.int .u8)) (hd : P.underlying dst = some .string)
    {a : Option Addr} {n c : Nat} {bs : List UInt8} (h : RdB w a n c bs) : (convert src dst (.slice a n c)).run P w = .ok (.string ⟨bs.toArray⟩) w := by
  obtain rfl : bs.length = n := RdB.size h
  cases a with
  | none =>
    have hc := h.nil rfl
    have hle := h.le
    obtain rfl : c = 0 := hc
    have : bs = [] := List.eq_nil_of_length_eq_zero (by omega)
    subst this
    rw [run_convert_bytes_string w src dst e none _ 0 hs he hd]
    simp [Conv.bytesToString]
    rfl
  | some x =>
    rcases Nat.eq_zero_or_pos bs.length with h0 | hp
    · have : bs = [] := List.eq_nil_of_length_eq_zero h0
      subst this
      exact run_convert_bytes_back w src dst e x c [] hs he hd (fun j hj => absurd hj (by simp))
    · obtain ⟨b, o, ha, hc⟩ := RdB.at h hp
      cases ha
      refine run_convert_bytes_back w src dst e _ c bs hs he hd fun j hj => ?_
      rw [addr_add, hc j hj]
      simp [List.getD, hj]

theorem wpList_conv_str {P : Program} {w : World} {ops : Array Oper} {rest : List Oper} {o : Oper} {a : Act} {Q : Exit → Act → World → Prop} (hgd : Region.wanted o (yielded ops a.tmps) = true) (src dst : TypeId) {e : TypeId} (x : Operand) (ho : o.op = .convert src dst x)
    (hs : P.underlying src = some (.slice e)) (he : P.underlying e = some (.int .u8)) (hd : P.underlying dst = some .string)
    (ad : Option Addr) (n c : Nat) (bs : List UInt8) (hx : a.eval x = .slice ad n c) (hr : RdB w ad n c bs)
    (h : wpList P ops Q rest (a.put o.dst (.string ⟨bs.toArray⟩)) w) : wpList P ops Q (o :: rest) a w := by
  refine wpList_wanted hgd fun K hK => ?_
  unfold Oper.wp execOp
  simp only [ho, hx, Sem.run_bind, Sem.run_pure, Result.andThen_ok, run_conv_str hs he hd hr]
  exact hK _ _ h

/-- Rows of bytes that a slice of slices reads as. -/
structure RdBB (w : World) (a : Option Addr) (n c : Nat) (l : List (List UInt8)) : Prop where
  len : l.length = n
  le : n ≤ c
  max : c ≤ maxLen
  nil : a = none → c = 0
  adr : 0 < c → ∃ b o, a = some ⟨b, o, none⟩
  cell : ∀ b o, a = some ⟨b, o, none⟩ → ∀ i, i < n → ∃ ai ni ci, w.cell? ⟨b, o + i, none⟩ = some (.slice ai ni ci) ∧ RdB w ai ni ci (l.getD i [])

theorem RdBB.pos {w : World} {a : Option Addr} {n c : Nat} {l : List (List UInt8)} (h : RdBB w a n c l) (hn : 0 < n) :
    ∃ b o, a = some ⟨b, o, none⟩ ∧ ∀ i, i < n → ∃ ai ni ci, w.cell? ⟨b, o + i, none⟩ = some (.slice ai ni ci) ∧ RdB w ai ni ci (l.getD i []) := by
  obtain ⟨b, o, e⟩ := h.adr (by have := h.le; omega)
  exact ⟨b, o, e, h.cell b o e⟩

theorem RdBB.below {w w' : World} {a : Option Addr} {n c : Nat} {l : List (List UInt8)} (h : RdBB w a n c l) (hb : Below w.heap.size w w') : RdBB w' a n c l :=
  ⟨h.len, h.le, h.max, h.nil, h.adr, fun b o e i hi => by
    obtain ⟨ai, ni, ci, hc, hr⟩ := h.cell b o e i hi
    exact ⟨ai, ni, ci, (hb.cell (World.block_lt_of_cell? w _ hc)).trans hc, Rd.below hr hb⟩⟩

theorem RdBB.bound {w : World} {a : Option Addr} {n c : Nat} {l : List (List UInt8)} (h : RdBB w a n c l) : n ≤ 9223372036854775807 ∧ c ≤ 9223372036854775807 := by
  have := h.le; have := h.max; unfold maxLen at this; omega

theorem rdBB_one {w : World} {a : Option Addr} {n c : Nat} {bs : List UInt8} (t : TypeId) (h : RdB w a n c bs) {g : Nat} (hg : g = w.heap.size) :
    RdBB (w.alloc (.cells #[.slice a n c] t)) (some ⟨g, 0, none⟩) 1 1 [bs] := by
  subst hg
  exact ⟨rfl, Nat.le_refl _, by unfold maxLen; omega, (fun e => nomatch e), (fun _ => ⟨_, _, rfl⟩), fun b o e i hi => by
    cases e
    obtain rfl : i = 0 := by omega
    exact ⟨a, n, c, by rw [Nat.zero_add, cell_of_row _ _ _ _ t (0, 0) (heap_alloc_new w _)]; rfl, Rd.below h ((Below.refl _ _).alloc (Nat.le_refl _) _)⟩⟩

/-- Bytes that were laid in a new block. -/
theorem rdB_lit {w : World} {t : TypeId} (bs : List UInt8) {cs : Array Value} (h : cs.toList = bs.map u8v) {n : Nat} (hn : bs.length = n) (hm : n ≤ maxLen) {fr : Nat × Nat} {g : Nat} (hg : g = w.heap.size) :
    RdB (w.alloc (.cells cs t fr)) (some ⟨g, 0, none⟩) n n bs := by
  have := rd_new (size := 1) w cs t n (by rw [← Array.length_toList, h]; simpa using hn) hm (fr := fr) hg
  rwa [h] at this

theorem Rd.alloc {size : Nat} {w : World} {a : Option Addr} {n c : Nat} {vs : List Value} (h : Rd size w a n c vs) (o : Obj) : Rd size (w.alloc o) a n c vs := h.below ((Below.refl _ _).alloc (Nat.le_refl _) _)

/-- Two rows laid in a new block. -/
theorem rdBB_two {w : World} {a a2 : Option Addr} {n c n2 c2 : Nat} {bs bs2 : List UInt8} {t : TypeId} (h : RdB w a n c bs) (h2 : RdB w a2 n2 c2 bs2) {g : Nat} (hg : g = w.heap.size) :
    RdBB (w.alloc (.cells #[.slice a n c, .slice a2 n2 c2] t)) (some ⟨g, 0, none⟩) 2 2 [bs, bs2] := by
  subst hg
  exact ⟨rfl, Nat.le_refl _, by unfold maxLen; omega, (fun e => nomatch e), (fun _ => ⟨_, _, rfl⟩), fun b o e i hi => by
    cases e
    have hi' : i = 0 ∨ i = 1 := by omega
    rcases hi' with rfl | rfl
    · exact ⟨a, n, c, by rw [Nat.zero_add, cell_of_row _ _ _ _ t (0, 0) (heap_alloc_new w _)]; rfl, Rd.alloc h _⟩
    · exact ⟨a2, n2, c2, by rw [Nat.zero_add, cell_of_row _ _ _ _ t (0, 0) (heap_alloc_new w _)]; rfl, Rd.alloc h2 _⟩⟩
end Go.NB
