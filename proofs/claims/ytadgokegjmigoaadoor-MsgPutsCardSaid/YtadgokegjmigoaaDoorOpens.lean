/- From a reading of a struct, or of a row of structs, to what the walks ask of it. No program in sight. -/
import Derived.Test.YtadgokegjmigoaaDoorOpena
namespace Go.NB
open Go Go.RowKit Go.ChangeShapes Go.WideShapes Go.ChangeAt
open Go.ChangeMaps (open_string shut_string)
section
variable {H : Type} {enc : TypeId × Value → H} {P : Program} {w : World} {base : Nat} {held : Bool}

/-- A struct's fields of one cell each. -/
def Flat (P : Program) (fs : Array Field) : Prop := ∀ (j : Nat) (f : Field), fs[j]? = some f → f.offset = j ∧ P.cellsOf f.type = 1
theorem open_fields {t : TypeId} {fs : Array Field} (ht : P.underlying t = some (.struct fs)) (hf : Flat P fs) {cs : List Value} {m : Nat} {x : DataW H × List MemPlace} (h : DataW.trod enc P w base (fun _ => true) held m t cs = some x) :
    cs.length = P.cellsOf t ∧ ∃ k, ∀ (j : Nat) (f : Field) (v : Value), fs[j]? = some f → cs[j]? = some v → ∃ y, DataW.trod enc P w base (fun _ => true) held k f.type [v] = some y := by
  obtain ⟨xs, n, _, _, hl, hlen, hall⟩ := DataW.trod_struct ht h
  refine ⟨hl, n, fun j f v hj hv => ?_⟩
  have hjs : j < fs.size := (Array.getElem?_eq_some_iff.1 hj).1
  have h1 := hall j f hj
  obtain ⟨e1, e2⟩ := hf j f hj
  rw [e1, e2] at h1
  have h2 : (cs.drop j).take 1 = [v] := by
    obtain ⟨hjl, rfl⟩ := List.getElem?_eq_some_iff.1 hv
    rw [List.drop_eq_getElem_cons hjl]
    rfl
  rw [h2, List.getElem?_eq_getElem (by omega)] at h1
  exact ⟨_, h1⟩
theorem open_struct {t : TypeId} {fs : Array Field} (ht : P.underlying t = some (.struct fs)) (hf : Flat P fs) {v : Value} {r : Reach} {b0 : Nat} (hv : Value.okWide P w r b0 t v) {d : DataW H} {p : List MemPlace} (h : DataW.Trod enc P w base (fun _ => true) held t v d p) :
    ∃ (cs : List Value) (k : Nat), v = .agg cs.toArray ∧ cs.length = P.cellsOf t ∧ ∀ (j : Nat) (f : Field) (u : Value), fs[j]? = some f → cs[j]? = some u → ∃ y, DataW.trod enc P w base (fun _ => true) held k f.type [u] = some y := by
  obtain ⟨xs, rfl, _⟩ := okWide_struct ht hv
  obtain ⟨fuel, hq⟩ := h
  obtain ⟨h1, k, h2⟩ := open_fields ht hf hq
  exact ⟨xs.toList, k, by simp, by simpa [Value.cells] using h1, by simpa [Value.cells] using h2⟩
/-- A row of structs. -/
theorem open_rows {t e : TypeId} {fs : Array Field} {N : Nat} (ht : P.underlying t = some (.slice e)) (he : P.underlying e = some (.struct fs)) (hf : Flat P fs) (ce : P.cellsOf e = N) (hN : fs.size = N) (hp : 0 < N)
    {a : Option Addr} {n c : Nat} {d : DataW H} {p : List MemPlace} (h : DataW.Trod enc P w base (fun _ => true) held t (.slice a n c) d p) :
    n ≤ c ∧ c ≤ maxLen ∧ ∀ i, i < n → ∃ b o k, a = some ⟨b, o, none⟩ ∧ ∀ (j : Nat) (f : Field), fs[j]? = some f → ∃ v y, w.cell? ⟨b, o + i * N + j, none⟩ = some v ∧ DataW.trod enc P w base (fun _ => true) held k f.type [v] = some y := by
  obtain ⟨fuel, hq⟩ := h
  rcases Deep.open_slice ht hq with ⟨hcs, _⟩ | ⟨x, l, cap, m, k, D, Pl, hcs, _, hl, hm, hmm, _, hall⟩
  · simp [Value.cells] at hcs
    obtain ⟨rfl, rfl, rfl⟩ := hcs
    exact ⟨Nat.le_refl _, Nat.zero_le _, fun i hi => absurd hi (by omega)⟩
  · simp [Value.cells] at hcs
    obtain ⟨rfl, rfl, rfl⟩ := hcs
    simp only [if_true] at hmm
    subst hmm
    refine ⟨hl, hm, fun i hi => ?_⟩
    obtain ⟨cs', hc, hd⟩ := hall i (by omega)
    rw [ce] at hc
    obtain ⟨_, hlen, hcell⟩ := World.cells?_some hc
    obtain ⟨hcl, k', hfl⟩ := open_fields he hf hd
    obtain ⟨b, o, sp⟩ := x
    have hs : sp = none := by
      obtain ⟨cs0, hc0, _⟩ := hall 0 (by omega)
      rw [ce] at hc0
      obtain ⟨_, hl0, hcell0⟩ := World.cells?_some hc0
      have h0 := hcell0 0 (by omega)
      rw [List.getElem?_eq_getElem (by omega)] at h0
      simpa [Addr.add] using World.cell?_spot h0
    subst hs
    refine ⟨b, o, k', rfl, fun j f hj => ?_⟩
    have hjs : j < fs.size := (Array.getElem?_eq_some_iff.1 hj).1
    have e0 := hcell j (by omega)
    rw [addr_add, addr_add] at e0
    have hv : cs'[j]? = some cs'[j] := List.getElem?_eq_getElem (by omega)
    obtain ⟨y, hy⟩ := hfl j f _ hj hv
    exact ⟨cs'[j], y, by rw [e0, hv], hy⟩
theorem f_int {t : TypeId} {q : IntKind} (ht : P.underlying t = some (.int q)) {v : Value} {m : Nat} {x : DataW H × List MemPlace} (h : DataW.trod enc P w base (fun _ => true) held m t [v] = some x) : ∃ N, v = .int q N ∧ (Lit.int q N).wf = true := by
  obtain ⟨N, k, _, hw⟩ := DataW.trod_int ht h
  exact ⟨N, by simpa using k, hw⟩
theorem f_u64 {t : TypeId} (ht : P.underlying t = some (.int .u64)) {v : Value} {m : Nat} {x : DataW H × List MemPlace} (h : DataW.trod enc P w base (fun _ => true) held m t [v] = some x) : ∃ N : Nat, v = .int .u64 (N : Int) ∧ N < 18446744073709551616 := by
  obtain ⟨N, rfl, hw⟩ := f_int ht h
  have := bounds_u64 hw
  obtain ⟨M, rfl⟩ := Int.eq_ofNat_of_zero_le this.1
  exact ⟨M, rfl, by omega⟩
theorem flat3 {f0 f1 f2 : Field} (o0 : f0.offset = 0) (o1 : f1.offset = 1) (o2 : f2.offset = 2) (c0 : P.cellsOf f0.type = 1) (c1 : P.cellsOf f1.type = 1) (c2 : P.cellsOf f2.type = 1) : Flat P #[f0, f1, f2] := by
  intro j f hj
  have hl : j < 3 := (Array.getElem?_eq_some_iff.1 hj).1
  match j, hl with
  | 0, _ => cases hj; exact ⟨o0, c0⟩
  | 1, _ => cases hj; exact ⟨o1, c1⟩
  | 2, _ => cases hj; exact ⟨o2, c2⟩
/-- Two uint64s and bytes. -/
theorem open_uub {t q : TypeId} {f0 f1 f2 : Field} (ht : P.underlying t = some (.struct #[f0, f1, f2])) (hf : Flat P #[f0, f1, f2]) (ct : P.cellsOf t = 3) (i0 : P.underlying f0.type = some (.int .u64)) (i1 : P.underlying f1.type = some (.int .u64)) (hb : P.underlying f2.type = some (.slice q)) (hq : P.underlying q = some (.int .u8)) (cq : P.cellsOf q = 1)
    {v : Value} {r : Reach} {b0 : Nat} (hv : Value.okWide P w r b0 t v) {d : DataW H} {p : List MemPlace} (h : DataW.Trod enc P w base (fun _ => true) held t v d p) :
    ∃ (x y : Nat) (a : Option Addr) (n c : Nat) (bs : List UInt8), v = .agg #[.int .u64 (x : Int), .int .u64 (y : Int), .slice a n c] ∧ x < 18446744073709551616 ∧ y < 18446744073709551616 ∧ RdB w a n c bs := by
  obtain ⟨cs, k, rfl, hl, hall⟩ := open_struct ht hf hv h
  rw [ct] at hl
  match cs, hl with
  | [v0, v1, v2], _ =>
    obtain ⟨_, t0⟩ := hall 0 f0 v0 rfl rfl
    obtain ⟨_, t1⟩ := hall 1 f1 v1 rfl rfl
    obtain ⟨_, t2⟩ := hall 2 f2 v2 rfl rfl
    obtain ⟨x, rfl, hx⟩ := f_u64 i0 t0
    obtain ⟨y, rfl, hy⟩ := f_u64 i1 t1
    obtain ⟨a, n, c, bs, rfl, hr⟩ := open_bytes hb hq cq t2
    exact ⟨x, y, a, n, c, bs, rfl, hx, hy, hr⟩
/-- A row of two uint64s and an int. -/
def ActsT (w : World) (a : Option Addr) (n c : Nat) : Prop :=
  n ≤ c ∧ c ≤ maxLen ∧ ∀ i, i < n → ∃ (b o x y : Nat) (z : Int), a = some ⟨b, o, none⟩ ∧ w.cell? ⟨b, o + i * 3, none⟩ = some (.int .u64 (x : Int)) ∧ w.cell? ⟨b, o + i * 3 + 1, none⟩ = some (.int .u64 (y : Int)) ∧ w.cell? ⟨b, o + i * 3 + 2, none⟩ = some (.int .i64 z) ∧
    x < 18446744073709551616 ∧ y < 18446744073709551616 ∧ (Lit.int .i64 z).wf = true
theorem open_uui {t e : TypeId} {f0 f1 f2 : Field} (ht : P.underlying t = some (.slice e)) (he : P.underlying e = some (.struct #[f0, f1, f2])) (hf : Flat P #[f0, f1, f2]) (ce : P.cellsOf e = 3) (i0 : P.underlying f0.type = some (.int .u64)) (i1 : P.underlying f1.type = some (.int .u64)) (i2 : P.underlying f2.type = some (.int .i64))
    {a : Option Addr} {n c : Nat} {d : DataW H} {p : List MemPlace} (h : DataW.Trod enc P w base (fun _ => true) held t (.slice a n c) d p) : ActsT w a n c := by
  obtain ⟨h1, h2, h3⟩ := open_rows ht he hf ce rfl (by omega) h
  refine ⟨h1, h2, fun i hi => ?_⟩
  obtain ⟨b, o, k, ea, hall⟩ := h3 i hi
  obtain ⟨v0, _, e0, t0⟩ := hall 0 f0 rfl
  obtain ⟨v1, _, e1, t1⟩ := hall 1 f1 rfl
  obtain ⟨v2, _, e2, t2⟩ := hall 2 f2 rfl
  obtain ⟨x, rfl, hx⟩ := f_u64 i0 t0
  obtain ⟨y, rfl, hy⟩ := f_u64 i1 t1
  obtain ⟨z, rfl, hz⟩ := f_int i2 t2
  exact ⟨b, o, x, y, z, ea, e0, e1, e2, hx, hy, hz⟩
end
end Go.NB
