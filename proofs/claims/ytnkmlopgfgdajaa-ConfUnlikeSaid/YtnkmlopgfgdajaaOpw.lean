/- Commands as a statement's arguments. -/
import Derived.Test.YtnkmlopgfgdajaaOpens
import Derived.Test.YtnkmlopgfgdajaaOpenu
import Derived.Test.YtnkmlopgfgdajaaCfa
namespace Go.NB
open Go Go.RowKit Go.ChangeShapes Go.WideShapes Go.ChangeAt
section
variable {H : Type} {enc : TypeId × Value → H} {P : Program} {w : World} {base : Nat} {held : Bool}
theorem open_nums {t e : TypeId} (ht : P.underlying t = some (.slice e)) (he : P.underlying e = some (.int .u64)) (ce : P.cellsOf e = 1) {v : Value} {m : Nat} {x : DataW H × List MemPlace}
    (hf : DataW.trod enc P w base (fun _ => true) held m t [v] = some x) : ∃ a n c xs, v = .slice a n c ∧ RdU w a n c xs := by
  rcases open_ints ht he ce hf with ⟨hcs, _⟩ | ⟨x, l, cap, zs, hcs, _, hl, hm, hz, _, hcell, hwz⟩
  · simp only [List.cons.injEq, and_true] at hcs
    exact ⟨none, 0, 0, [], hcs, Rd.nil_mk, fun x hx => nomatch hx⟩
  · simp only [List.cons.injEq, and_true] at hcs
    obtain ⟨xs, hb⟩ := rdU_of_ints hl hm (by simpa using hz) hcell hwz
    exact ⟨some x, l, cap, xs, hcs, hb⟩
/-- Where a row of structs lies. -/
theorem open_place {t e : TypeId} {N : Nat} (ht : P.underlying t = some (.slice e)) (ce : P.cellsOf e = N) (hp : 0 < N)
    {a : Option Addr} {n c m0 : Nat} {x : DataW H × List MemPlace} (hq : DataW.trod enc P w base (fun _ => true) held m0 t [.slice a n c] = some x) : (a = none → c = 0) ∧ (0 < c → ∃ b o, a = some ⟨b, o, none⟩) := by
  rcases Deep.open_slice ht hq with ⟨hcs, _⟩ | ⟨x, l, cap, m, k, D, Pl, hcs, _, hl, hm, hmm, _, hall⟩
  · simp at hcs
    obtain ⟨rfl, rfl, rfl⟩ := hcs
    exact ⟨fun _ => rfl, fun h => absurd h (by omega)⟩
  · simp at hcs
    obtain ⟨rfl, rfl, rfl⟩ := hcs
    simp only [if_true] at hmm
    subst hmm
    refine ⟨(fun e => nomatch e), fun hc => ?_⟩
    obtain ⟨cs', hc', hd⟩ := hall 0 hc
    rw [ce] at hc'
    obtain ⟨_, hlen, hcell⟩ := World.cells?_some hc'
    obtain ⟨b, o, sp⟩ := x
    have h0 := hcell 0 hp
    rw [List.getElem?_eq_getElem (by omega)] at h0
    have hs : sp = none := by simpa [Addr.add] using World.cell?_spot h0
    exact ⟨b, o, by rw [hs]⟩
theorem flat2 {f0 f1 : Field} (o0 : f0.offset = 0) (o1 : f1.offset = 1) (c0 : P.cellsOf f0.type = 1) (c1 : P.cellsOf f1.type = 1) : Flat P #[f0, f1] := by
  intro j f hj
  have hl : j < 2 := (Array.getElem?_eq_some_iff.1 hj).1
  match j, hl with
  | 0, _ => cases hj; exact ⟨o0, c0⟩
  | 1, _ => cases hj; exact ⟨o1, c1⟩
theorem flat7 {f0 f1 f2 f3 f4 f5 f6 : Field} (o0 : f0.offset = 0) (o1 : f1.offset = 1) (o2 : f2.offset = 2) (o3 : f3.offset = 3) (o4 : f4.offset = 4) (o5 : f5.offset = 5) (o6 : f6.offset = 6)
    (c0 : P.cellsOf f0.type = 1) (c1 : P.cellsOf f1.type = 1) (c2 : P.cellsOf f2.type = 1) (c3 : P.cellsOf f3.type = 1) (c4 : P.cellsOf f4.type = 1) (c5 : P.cellsOf f5.type = 1) (c6 : P.cellsOf f6.type = 1) : Flat P #[f0, f1, f2, f3, f4, f5, f6] := by
  intro j f hj
  have hl : j < 7 := (Array.getElem?_eq_some_iff.1 hj).1
  match j, hl with
  | 0, _ => cases hj; exact ⟨o0, c0⟩
  | 1, _ => cases hj; exact ⟨o1, c1⟩
  | 2, _ => cases hj; exact ⟨o2, c2⟩
  | 3, _ => cases hj; exact ⟨o3, c3⟩
  | 4, _ => cases hj; exact ⟨o4, c4⟩
  | 5, _ => cases hj; exact ⟨o5, c5⟩
  | 6, _ => cases hj; exact ⟨o6, c6⟩
theorem list_of {α : Type} {Q : Nat → α → Prop} : ∀ n : Nat, (∀ i, i < n → ∃ x, Q i x) → ∃ L : List α, L.length = n ∧ ∀ i x, L[i]? = some x → Q i x
  | 0, _ => ⟨[], rfl, fun i x h => by simp at h⟩
  | n + 1, h => by
    obtain ⟨L, h1, h2⟩ := list_of n (fun i hi => h i (by omega))
    obtain ⟨y, hy⟩ := h n (by omega)
    refine ⟨L ++ [y], by simp [h1], fun i x hx => ?_⟩
    rcases Nat.lt_or_ge i n with h3 | h3
    · rw [List.getElem?_append_left (by omega)] at hx
      exact h2 i x hx
    · rw [List.getElem?_append_right (by omega)] at hx
      have : i - L.length = 0 := by
        have := (List.getElem?_eq_some_iff.1 hx).1
        simp at this
        omega
      rw [this] at hx
      obtain rfl : y = x := by simpa using hx
      obtain rfl : i = n := by omega
      exact hy
end
end Go.NB
namespace Go.Proofs.Ytnkmlopgfgdajaa
open Go Go.RowKit Go.ChangeShapes Go.WideShapes Go.ChangeAt
open Go.NB (Rd RdU)
section
variable {H : Type} {enc : TypeId × Value → H} {P : Program} {w : World} {base : Nat} {held : Bool}
theorem iws_get {α : Type} {l : List Iw} {Q : Nat → Value → Prop} (h0 : ∀ (i : Nat) (x : Iw), l[i]? = some x → Q (i * 2) (.int .i64 x.s)) (h1 : ∀ (i : Nat) (x : Iw), l[i]? = some x → Q (i * 2 + 1) (.slice x.a x.n x.c)) (j : Nat) (v : Value) (hj : (iwsV l)[j]? = some v) : Q j v := by
  have hlt := (List.getElem?_eq_some_iff.1 hj).1
  rw [iws_len] at hlt
  obtain ⟨x, hx⟩ : ∃ x, l[j / 2]? = some x := ⟨_, List.getElem?_eq_getElem (by omega)⟩
  obtain ⟨v0, v1⟩ := iws_at l (j / 2) x hx
  have hm : j = j / 2 * 2 ∨ j = j / 2 * 2 + 1 := by omega
  rcases hm with hm | hm
  · rw [hm] at hj ⊢
    rw [v0] at hj
    cases hj
    exact h0 _ x hx
  · rw [hm] at hj ⊢
    rw [v1] at hj
    cases hj
    exact h1 _ x hx
theorem open_W {t e q : TypeId} {f0 f1 : Field} (ht : P.underlying t = some (.slice e)) (he : P.underlying e = some (.struct #[f0, f1])) (hf : NB.Flat P #[f0, f1]) (ce : P.cellsOf e = 2) (i0 : P.underlying f0.type = some (.int .i64)) (hb : P.underlying f1.type = some (.slice q)) (hq : P.underlying q = some (.int .u64)) (cq : P.cellsOf q = 1)
    {a : Option Addr} {n c m0 : Nat} {x0 : DataW H × List MemPlace} (h0 : DataW.trod enc P w base (fun _ => true) held m0 t [.slice a n c] = some x0) : ∃ L, RdW w a n c L := by
  obtain ⟨hnil, hadr⟩ := NB.open_place ht ce (by omega) h0
  obtain ⟨h1, h2, h3⟩ := NB.open_rows ht he hf ce rfl (by omega) (d := x0.1) (p := x0.2) ⟨m0, h0⟩
  have h4 : ∀ i, i < n → ∃ x : Iw, (∃ b o, a = some ⟨b, o, none⟩ ∧ w.cell? ⟨b, o + i * 2, none⟩ = some (.int .i64 x.s) ∧ w.cell? ⟨b, o + i * 2 + 1, none⟩ = some (.slice x.a x.n x.c)) ∧ RdU w x.a x.n x.c x.l := by
    intro i hi
    obtain ⟨b, o, k, ea, hall⟩ := h3 i hi
    obtain ⟨v0, _, e0, t0⟩ := hall 0 f0 rfl
    obtain ⟨v1, _, e1, t1⟩ := hall 1 f1 rfl
    obtain ⟨s, rfl, _⟩ := NB.f_int i0 t0
    obtain ⟨a', n', c', xs, rfl, hr⟩ := NB.open_nums hb hq cq t1
    exact ⟨⟨s, a', n', c', xs⟩, ⟨b, o, ea, e0, e1⟩, hr⟩
  obtain ⟨L, hL, hQ⟩ := NB.list_of n h4
  refine ⟨L, ⟨⟨by rw [iws_len, hL], h1, h2, hnil, hadr, ?_⟩, ?_⟩⟩
  · intro b o e j v hj
    refine iws_get (α := Nat) (Q := fun j v => w.cell? ⟨b, o + j, none⟩ = some v) (fun i x hx => ?_) (fun i x hx => ?_) j v hj
    · obtain ⟨⟨b', o', e', c0, _⟩, _⟩ := hQ i x hx
      rw [e] at e'; cases e'
      exact c0
    · obtain ⟨⟨b', o', e', _, c1⟩, _⟩ := hQ i x hx
      rw [e] at e'; cases e'
      rw [← Nat.add_assoc]; exact c1
  · intro x hx
    obtain ⟨i, hi, rfl⟩ := List.getElem_of_mem hx
    exact (hQ i _ (List.getElem?_eq_getElem hi)).2
theorem open_Wt {t e q : TypeId} {f0 f1 : Field} (ht : P.underlying t = some (.slice e)) (he : P.underlying e = some (.struct #[f0, f1])) (hf : NB.Flat P #[f0, f1]) (ce : P.cellsOf e = 2) (i0 : P.underlying f0.type = some (.int .i64)) (hb : P.underlying f1.type = some (.slice q)) (hq : P.underlying q = some (.int .u64)) (cq : P.cellsOf q = 1)
    {a : Option Addr} {n c : Nat} {d : DataW H} {p : List MemPlace} (h : DataW.Trod enc P w base (fun _ => true) held t (.slice a n c) d p) : ∃ L, RdW w a n c L := by
  obtain ⟨fuel, h0⟩ := h
  exact open_W ht he hf ce i0 hb hq cq h0
/-- A command. -/
theorem open_C {t e q : TypeId} {f0 f1 f2 f3 f4 f5 f6 g0 g1 : Field} (ht : P.underlying t = some (.struct #[f0, f1, f2, f3, f4, f5, f6])) (hf : NB.Flat P #[f0, f1, f2, f3, f4, f5, f6]) (ct : P.cellsOf t = 7)
    (i0 : P.underlying f0.type = some (.int .i64)) (i1 : P.underlying f1.type = some (.int .u64)) (i2 : P.underlying f2.type = some (.int .u64)) (i3 : P.underlying f3.type = some (.int .i64)) (i4 : P.underlying f4.type = some (.int .i64)) (i5 : P.underlying f5.type = some (.int .u64))
    (e6 : P.underlying f6.type = some (.slice e)) (he : P.underlying e = some (.struct #[g0, g1])) (hg : NB.Flat P #[g0, g1]) (ce : P.cellsOf e = 2) (j0 : P.underlying g0.type = some (.int .i64)) (hb : P.underlying g1.type = some (.slice q)) (hq : P.underlying q = some (.int .u64)) (cq : P.cellsOf q = 1)
    {v : Value} {r : Reach} {b0 : Nat} (hv : Value.okWide P w r b0 t v) {d : DataW H} {p : List MemPlace} (h : DataW.Trod enc P w base (fun _ => true) held t v d p) :
    ∃ (op sh sg : Int) (cl sq ps : Nat) (a : Option Addr) (n c : Nat) (L : List Iw), v = .agg #[.int .i64 op, .int .u64 (cl : Int), .int .u64 (sq : Int), .int .i64 sh, .int .i64 sg, .int .u64 (ps : Int), .slice a n c] ∧ (cl < 18446744073709551616 ∧ sq < 18446744073709551616 ∧ ps < 18446744073709551616) ∧ RdW w a n c L := by
  obtain ⟨cs, k, rfl, hl, hall⟩ := NB.open_struct ht hf hv h
  rw [ct] at hl
  match cs, hl with
  | [v0, v1, v2, v3, v4, v5, v6], _ =>
    obtain ⟨_, t0⟩ := hall 0 f0 v0 rfl rfl
    obtain ⟨_, t1⟩ := hall 1 f1 v1 rfl rfl
    obtain ⟨_, t2⟩ := hall 2 f2 v2 rfl rfl
    obtain ⟨_, t3⟩ := hall 3 f3 v3 rfl rfl
    obtain ⟨_, t4⟩ := hall 4 f4 v4 rfl rfl
    obtain ⟨_, t5⟩ := hall 5 f5 v5 rfl rfl
    obtain ⟨y6, u6⟩ := hall 6 f6 v6 rfl rfl
    obtain ⟨op, rfl, _⟩ := NB.f_int i0 t0
    obtain ⟨cl, rfl, h1⟩ := NB.f_u64 i1 t1
    obtain ⟨sq, rfl, h2⟩ := NB.f_u64 i2 t2
    obtain ⟨sh, rfl, _⟩ := NB.f_int i3 t3
    obtain ⟨sg, rfl, _⟩ := NB.f_int i4 t4
    obtain ⟨ps, rfl, h5⟩ := NB.f_u64 i5 t5
    have h6 : ∃ a n c, v6 = .slice a n c := by
      rcases Deep.open_slice e6 u6 with ⟨hcs, _⟩ | ⟨x, l, cap, _, _, _, _, hcs, _⟩
      · exact ⟨none, 0, 0, by simpa using hcs⟩
      · exact ⟨some x, l, cap, by simpa using hcs⟩
    obtain ⟨a, n, c, rfl⟩ := h6
    obtain ⟨L, hL⟩ := open_W e6 he hg ce j0 hb hq cq u6
    exact ⟨op, sh, sg, cl, sq, ps, a, n, c, L, rfl, ⟨h1, h2, h5⟩, hL⟩
end
end Go.Proofs.Ytnkmlopgfgdajaa
