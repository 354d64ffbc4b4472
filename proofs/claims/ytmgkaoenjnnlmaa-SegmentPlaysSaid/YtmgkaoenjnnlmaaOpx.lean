/- From a reading of a row of structs of four fields to what the walks ask of it. No program in sight. An argument of the segment's law: a row of acts. No program in sight. -/
import Derived.Test.YtmgkaoenjnnlmaaOpen
import Derived.Lib.SmallJoins
import Derived.Deep.Slices
namespace Go.NB
open Go Go.RowKit Go.ChangeShapes Go.WideShapes Go.ChangeAt
open Go.ChangeMaps (open_string shut_string)
/-- A row of acts of the disk's law. -/
def ActsD (w : World) (a : Option Addr) (n c : Nat) : Prop :=
  n ≤ c ∧ c ≤ maxLen ∧ ∀ i, i < n → ∃ b o x y z a' n' c' bs, a = some ⟨b, o, none⟩ ∧ w.cell? ⟨b, o + i * 4, none⟩ = some (.int .i64 x) ∧ w.cell? ⟨b, o + i * 4 + 1, none⟩ = some (.int .i64 y) ∧ w.cell? ⟨b, o + i * 4 + 2, none⟩ = some (.int .i64 z) ∧ w.cell? ⟨b, o + i * 4 + 3, none⟩ = some (.slice a' n' c') ∧
      (Lit.int .i64 x).wf = true ∧ (Lit.int .i64 y).wf = true ∧ (Lit.int .i64 z).wf = true ∧ RdB w a' n' c' bs
/-- A row of acts of the cell's law. -/
def ActsC (w : World) (a : Option Addr) (n c : Nat) : Prop :=
  n ≤ c ∧ c ≤ maxLen ∧ ∀ i, i < n → ∃ b o x y z a' n' c' bs, a = some ⟨b, o, none⟩ ∧ w.cell? ⟨b, o + i * 4, none⟩ = some (.int .i64 x) ∧ w.cell? ⟨b, o + i * 4 + 1, none⟩ = some (.int .i64 y) ∧ w.cell? ⟨b, o + i * 4 + 2, none⟩ = some (.slice a' n' c') ∧ w.cell? ⟨b, o + i * 4 + 3, none⟩ = some (.int .u64 z) ∧
      (Lit.int .i64 x).wf = true ∧ (Lit.int .i64 y).wf = true ∧ (Lit.int .u64 z).wf = true ∧ RdB w a' n' c' bs
section
variable {H : Type} {enc : TypeId × Value → H} {P : Program} {w : World} {base : Nat} {held : Bool}

theorem open_bytes {t e : TypeId} (ht : P.underlying t = some (.slice e)) (he : P.underlying e = some (.int .u8)) (ce : P.cellsOf e = 1) {v : Value} {m : Nat} {x : DataW H × List MemPlace}
    (hf : DataW.trod enc P w base (fun _ => true) held m t [v] = some x) : ∃ a n c bs, v = .slice a n c ∧ RdB w a n c bs := by
  rcases open_ints ht he ce hf with ⟨hcs, _⟩ | ⟨x, l, cap, zs, hcs, _, hl, hm, hz, _, hcell, hwz⟩
  · simp only [List.cons.injEq, and_true] at hcs
    exact ⟨none, 0, 0, [], hcs, Rd.nil_mk⟩
  · simp only [List.cons.injEq, and_true] at hcs
    obtain ⟨bs, hb⟩ := rdB_of_ints hl hm (by simpa using hz) hcell hwz
    exact ⟨some x, l, cap, bs, hcs, hb⟩

theorem open_rows4 {t e : TypeId} {f0 f1 f2 f3 : Field} (ht : P.underlying t = some (.slice e)) (he : P.underlying e = some (.struct #[f0, f1, f2, f3])) (ce : P.cellsOf e = 4)
    (o0 : f0.offset = 0) (o1 : f1.offset = 1) (o2 : f2.offset = 2) (o3 : f3.offset = 3) (c0 : P.cellsOf f0.type = 1) (c1 : P.cellsOf f1.type = 1) (c2 : P.cellsOf f2.type = 1) (c3 : P.cellsOf f3.type = 1)
    {a : Option Addr} {n c : Nat} {d : DataW H} {p : List MemPlace} (h : DataW.Trod enc P w base (fun _ => true) held t (.slice a n c) d p) :
    n ≤ c ∧ c ≤ maxLen ∧ ∀ i, i < n → ∃ b o v0 v1 v2 v3 m y0 y1 y2 y3, a = some ⟨b, o, none⟩ ∧ w.cell? ⟨b, o + i * 4, none⟩ = some v0 ∧ w.cell? ⟨b, o + i * 4 + 1, none⟩ = some v1 ∧ w.cell? ⟨b, o + i * 4 + 2, none⟩ = some v2 ∧ w.cell? ⟨b, o + i * 4 + 3, none⟩ = some v3 ∧
      DataW.trod enc P w base (fun _ => true) held m f0.type [v0] = some y0 ∧ DataW.trod enc P w base (fun _ => true) held m f1.type [v1] = some y1 ∧ DataW.trod enc P w base (fun _ => true) held m f2.type [v2] = some y2 ∧ DataW.trod enc P w base (fun _ => true) held m f3.type [v3] = some y3 := by
  obtain ⟨fuel, hf⟩ := h
  rcases Deep.open_slice ht hf with ⟨hcs, _⟩ | ⟨x, l, cap, m, k, D, Pl, hcs, _, hl, hm, hmm, _, hall⟩
  · simp [Value.cells] at hcs
    obtain ⟨rfl, rfl, rfl⟩ := hcs
    exact ⟨Nat.le_refl _, Nat.zero_le _, fun i hi => absurd hi (by omega)⟩
  · simp [Value.cells] at hcs
    obtain ⟨rfl, rfl, rfl⟩ := hcs
    simp only [if_true] at hmm
    subst hmm
    refine ⟨hl, hm, fun i hi => ?_⟩
    obtain ⟨cs', hc, hd⟩ := hall i (by omega)
    rw [ce] at hc
    obtain ⟨_, hlen, hcell⟩ := World.cells?_some hc
    obtain ⟨y0, y1, y2, y3, m', _, _, t0, t1, t2, t3⟩ := Joins.trod_struct4 he hd
    match cs', hlen with
    | [v0, v1, v2, v3], _ =>
      simp only [o0, o1, o2, o3, c0, c1, c2, c3, List.drop, List.take] at t0 t1 t2 t3
      obtain ⟨b, o, sp⟩ := x
      have e0 := hcell 0 (by omega)
      have e1 := hcell 1 (by omega)
      have e2 := hcell 2 (by omega)
      have e3 := hcell 3 (by omega)
      have hs : sp = none := by
        obtain ⟨cs0, hc0, _⟩ := hall 0 (by omega)
        rw [ce] at hc0
        obtain ⟨_, hl0, hcell0⟩ := World.cells?_some hc0
        have h0 := hcell0 0 (by omega)
        rw [List.getElem?_eq_getElem (by omega)] at h0
        simpa [Addr.add] using World.cell?_spot h0
      subst hs
      rw [addr_add, addr_add] at e0 e1 e2 e3
      exact ⟨b, o, v0, v1, v2, v3, m', y0, y1, y2, y3, rfl, e0, e1, e2, e3, t0, t1, t2, t3⟩
/-- Acts of the disk's law: three ints and bytes. -/
theorem open_iiib {t e q : TypeId} {f0 f1 f2 f3 : Field} (ht : P.underlying t = some (.slice e)) (he : P.underlying e = some (.struct #[f0, f1, f2, f3])) (ce : P.cellsOf e = 4)
    (o0 : f0.offset = 0) (o1 : f1.offset = 1) (o2 : f2.offset = 2) (o3 : f3.offset = 3) (c0 : P.cellsOf f0.type = 1) (c1 : P.cellsOf f1.type = 1) (c2 : P.cellsOf f2.type = 1) (c3 : P.cellsOf f3.type = 1)
    (i0 : P.underlying f0.type = some (.int .i64)) (i1 : P.underlying f1.type = some (.int .i64)) (i2 : P.underlying f2.type = some (.int .i64)) (hb : P.underlying f3.type = some (.slice q)) (hq : P.underlying q = some (.int .u8)) (cq : P.cellsOf q = 1)
    {a : Option Addr} {n c : Nat} {d : DataW H} {p : List MemPlace} (h : DataW.Trod enc P w base (fun _ => true) held t (.slice a n c) d p) :
    ActsD w a n c := by
  obtain ⟨h1, h2, h3⟩ := open_rows4 ht he ce o0 o1 o2 o3 c0 c1 c2 c3 h
  refine ⟨h1, h2, fun i hi => ?_⟩
  obtain ⟨b, o, v0, v1, v2, v3, m, y0, y1, y2, y3, ea, e0, e1, e2, e3, t0, t1, t2, t3⟩ := h3 i hi
  obtain ⟨N0, k0, _, w0⟩ := DataW.trod_int i0 t0
  obtain ⟨N1, k1, _, w1⟩ := DataW.trod_int i1 t1
  obtain ⟨N2, k2, _, w2⟩ := DataW.trod_int i2 t2
  obtain ⟨a', n', c', bs, rfl, hr⟩ := open_bytes hb hq cq t3
  simp only [List.cons.injEq, and_true] at k0 k1 k2
  subst k0 k1 k2
  exact ⟨b, o, N0, N1, N2, a', n', c', bs, ea, e0, e1, e2, e3, w0, w1, w2, hr⟩
/-- Acts of the cell's law: two ints, bytes, a number. -/
theorem open_iibu {t e q : TypeId} {f0 f1 f2 f3 : Field} (ht : P.underlying t = some (.slice e)) (he : P.underlying e = some (.struct #[f0, f1, f2, f3])) (ce : P.cellsOf e = 4)
    (o0 : f0.offset = 0) (o1 : f1.offset = 1) (o2 : f2.offset = 2) (o3 : f3.offset = 3) (c0 : P.cellsOf f0.type = 1) (c1 : P.cellsOf f1.type = 1) (c2 : P.cellsOf f2.type = 1) (c3 : P.cellsOf f3.type = 1)
    (i0 : P.underlying f0.type = some (.int .i64)) (i1 : P.underlying f1.type = some (.int .i64)) (hb : P.underlying f2.type = some (.slice q)) (i3 : P.underlying f3.type = some (.int .u64)) (hq : P.underlying q = some (.int .u8)) (cq : P.cellsOf q = 1)
    {a : Option Addr} {n c : Nat} {d : DataW H} {p : List MemPlace} (h : DataW.Trod enc P w base (fun _ => true) held t (.slice a n c) d p) :
    ActsC w a n c := by
  obtain ⟨h1, h2, h3⟩ := open_rows4 ht he ce o0 o1 o2 o3 c0 c1 c2 c3 h
  refine ⟨h1, h2, fun i hi => ?_⟩
  obtain ⟨b, o, v0, v1, v2, v3, m, y0, y1, y2, y3, ea, e0, e1, e2, e3, t0, t1, t2, t3⟩ := h3 i hi
  obtain ⟨N0, k0, _, w0⟩ := DataW.trod_int i0 t0
  obtain ⟨N1, k1, _, w1⟩ := DataW.trod_int i1 t1
  obtain ⟨N3, k3, _, w3⟩ := DataW.trod_int i3 t3
  obtain ⟨a', n', c', bs, rfl, hr⟩ := open_bytes hb hq cq t2
  simp only [List.cons.injEq, and_true] at k0 k1 k3
  subst k0 k1 k3
  exact ⟨b, o, N0, N1, N3, a', n', c', bs, ea, e0, e1, e2, e3, w0, w1, w3, hr⟩
end
end Go.NB
namespace Go.NB
open Go Go.RowKit
/-- A row of acts of the segment's law. -/
def ActsS (w : World) (a : Option Addr) (n c : Nat) : Prop :=
  n ≤ c ∧ c ≤ maxLen ∧ ∀ i, i < n → ∃ b o x y z a' n' c' bs, a = some ⟨b, o, none⟩ ∧ w.cell? ⟨b, o + i * 4, none⟩ = some (.int .i64 x) ∧ w.cell? ⟨b, o + i * 4 + 1, none⟩ = some (.int .i64 y) ∧ w.cell? ⟨b, o + i * 4 + 2, none⟩ = some (.slice a' n' c') ∧ w.cell? ⟨b, o + i * 4 + 3, none⟩ = some (.bool z) ∧
      (Lit.int .i64 x).wf = true ∧ (Lit.int .i64 y).wf = true ∧ RdB w a' n' c' bs
section
variable {H : Type} {enc : TypeId × Value → H} {P : Program} {w : World} {base : Nat} {held : Bool}
theorem open_iibo {t e q : TypeId} {f0 f1 f2 f3 : Field} (ht : P.underlying t = some (.slice e)) (he : P.underlying e = some (.struct #[f0, f1, f2, f3])) (ce : P.cellsOf e = 4)
    (o0 : f0.offset = 0) (o1 : f1.offset = 1) (o2 : f2.offset = 2) (o3 : f3.offset = 3) (c0 : P.cellsOf f0.type = 1) (c1 : P.cellsOf f1.type = 1) (c2 : P.cellsOf f2.type = 1) (c3 : P.cellsOf f3.type = 1)
    (i0 : P.underlying f0.type = some (.int .i64)) (i1 : P.underlying f1.type = some (.int .i64)) (hb : P.underlying f2.type = some (.slice q)) (i3 : P.underlying f3.type = some .bool) (hq : P.underlying q = some (.int .u8)) (cq : P.cellsOf q = 1)
    {a : Option Addr} {n c : Nat} {d : DataW H} {p : List MemPlace} (h : DataW.Trod enc P w base (fun _ => true) held t (.slice a n c) d p) :
    ActsS w a n c := by
  obtain ⟨h1, h2, h3⟩ := open_rows4 ht he ce o0 o1 o2 o3 c0 c1 c2 c3 h
  refine ⟨h1, h2, fun i hi => ?_⟩
  obtain ⟨b, o, v0, v1, v2, v3, m, y0, y1, y2, y3, ea, e0, e1, e2, e3, t0, t1, t2, t3⟩ := h3 i hi
  obtain ⟨N0, k0, _, w0⟩ := DataW.trod_int i0 t0
  obtain ⟨N1, k1, _, w1⟩ := DataW.trod_int i1 t1
  obtain ⟨N3, k3, _⟩ := DataW.trod_bool i3 t3
  obtain ⟨a', n', c', bs, rfl, hr⟩ := open_bytes hb hq cq t2
  simp only [List.cons.injEq, and_true] at k0 k1 k3
  subst k0 k1 k3
  exact ⟨b, o, N0, N1, N3, a', n', c', bs, ea, e0, e1, e2, e3, w0, w1, hr⟩
end
end Go.NB
