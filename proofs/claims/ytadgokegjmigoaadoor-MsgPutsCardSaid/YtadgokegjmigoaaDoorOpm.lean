/- A message as a statement's argument. -/
import Derived.Test.YtadgokegjmigoaaDoorOpens
import Derived.Test.YtadgokegjmigoaaDoorOpenu
import Derived.Test.YtadgokegjmigoaaDoorMga
namespace Go.NB
open Go Go.RowKit Go.ChangeShapes Go.WideShapes Go.ChangeAt
section
variable {H : Type} {enc : TypeId × Value → H} {P : Program} {w : World} {base : Nat} {held : Bool}
theorem open_nums {t e : TypeId} (ht : P.underlying t = some (.slice e)) (he : P.underlying e = some (.int .u64)) (ce : P.cellsOf e = 1) {v : Value} {m : Nat} {x : DataW H × List MemPlace}
    (hf : DataW.trod enc P w base (fun _ => true) held m t [v] = some x) : ∃ a n c xs, v = .slice a n c ∧ RdU w a n c xs := by
  rcases open_ints ht he ce hf with ⟨hcs, _⟩ | ⟨x, l, cap, zs, hcs, _, hl, hm, hz, _, hcell, hwz⟩
  · simp only [List.cons.injEq, and_true] at hcs
    exact ⟨none, 0, 0, [], hcs, Rd.nil_mk, fun x hx => nomatch hx⟩
  · simp only [List.cons.injEq, and_true] at hcs
    obtain ⟨xs, hb⟩ := rdU_of_ints hl hm (by simpa using hz) hcell hwz
    exact ⟨some x, l, cap, xs, hcs, hb⟩
theorem flat11 {f0 f1 f2 f3 f4 f5 f6 f7 f8 f9 f10 : Field} (o0 : f0.offset = 0) (o1 : f1.offset = 1) (o2 : f2.offset = 2) (o3 : f3.offset = 3) (o4 : f4.offset = 4) (o5 : f5.offset = 5) (o6 : f6.offset = 6) (o7 : f7.offset = 7) (o8 : f8.offset = 8) (o9 : f9.offset = 9) (o10 : f10.offset = 10)
    (c0 : P.cellsOf f0.type = 1) (c1 : P.cellsOf f1.type = 1) (c2 : P.cellsOf f2.type = 1) (c3 : P.cellsOf f3.type = 1) (c4 : P.cellsOf f4.type = 1) (c5 : P.cellsOf f5.type = 1) (c6 : P.cellsOf f6.type = 1) (c7 : P.cellsOf f7.type = 1) (c8 : P.cellsOf f8.type = 1) (c9 : P.cellsOf f9.type = 1) (c10 : P.cellsOf f10.type = 1) : Flat P #[f0, f1, f2, f3, f4, f5, f6, f7, f8, f9, f10] := by
  intro j f hj
  have hl : j < 11 := (Array.getElem?_eq_some_iff.1 hj).1
  match j, hl with
  | 0, _ => cases hj; exact ⟨o0, c0⟩
  | 1, _ => cases hj; exact ⟨o1, c1⟩
  | 2, _ => cases hj; exact ⟨o2, c2⟩
  | 3, _ => cases hj; exact ⟨o3, c3⟩
  | 4, _ => cases hj; exact ⟨o4, c4⟩
  | 5, _ => cases hj; exact ⟨o5, c5⟩
  | 6, _ => cases hj; exact ⟨o6, c6⟩
  | 7, _ => cases hj; exact ⟨o7, c7⟩
  | 8, _ => cases hj; exact ⟨o8, c8⟩
  | 9, _ => cases hj; exact ⟨o9, c9⟩
  | 10, _ => cases hj; exact ⟨o10, c10⟩
end
end Go.NB
namespace Go.Proofs.YtadgokegjmigoaaDoor
open Go Go.RowKit Go.ChangeShapes Go.WideShapes Go.ChangeAt
open Go.NB (Rd RdU)
section
variable {H : Type} {enc : TypeId × Value → H} {P : Program} {w : World} {base : Nat} {held : Bool}
theorem open_M {t e eb : TypeId} {f0 f1 f2 f3 f4 f5 f6 f7 f8 f9 f10 : Field} (ht : P.underlying t = some (.struct #[f0, f1, f2, f3, f4, f5, f6, f7, f8, f9, f10])) (hf : NB.Flat P #[f0, f1, f2, f3, f4, f5, f6, f7, f8, f9, f10]) (ct : P.cellsOf t = 11)
    (i0 : P.underlying f0.type = some (.int .i64)) (i1 : P.underlying f1.type = some (.int .u64)) (i2 : P.underlying f2.type = some (.int .u64)) (i3 : P.underlying f3.type = some (.int .i64)) (i4 : P.underlying f4.type = some (.int .i64)) (i5 : P.underlying f5.type = some (.int .u64)) (i6 : P.underlying f6.type = some (.int .u64)) (i7 : P.underlying f7.type = some (.int .u64)) (i8 : P.underlying f8.type = some (.int .i64)) (h9 : P.underlying f9.type = some (.slice e)) (he : P.underlying e = some (.int .u64)) (ce : P.cellsOf e = 1) (h10 : P.underlying f10.type = some (.slice eb)) (hb : P.underlying eb = some (.int .u8)) (cb : P.cellsOf eb = 1)
    {v : Value} {r : Reach} {b0 : Nat} (hv : Value.okWide P w r b0 t v) {d : DataW H} {p : List MemPlace} (h : DataW.Trod enc P w base (fun _ => true) held t v d p) :
    ∃ (m : Mm) (av : Option Addr) (cv : Nat) (ab : Option Addr) (cb : Nat), v = .agg (msgV m av cv ab cb).toArray ∧ WfM m ∧ MsgR w m av cv ab cb := by
  obtain ⟨cs, k, rfl, hl, hall⟩ := NB.open_struct ht hf hv h
  rw [ct] at hl
  match cs, hl with
  | [v0, v1, v2, v3, v4, v5, v6, v7, v8, v9, v10], _ =>
    obtain ⟨_, t0⟩ := hall 0 f0 v0 rfl rfl
    obtain ⟨_, t1⟩ := hall 1 f1 v1 rfl rfl
    obtain ⟨_, t2⟩ := hall 2 f2 v2 rfl rfl
    obtain ⟨_, t3⟩ := hall 3 f3 v3 rfl rfl
    obtain ⟨_, t4⟩ := hall 4 f4 v4 rfl rfl
    obtain ⟨_, t5⟩ := hall 5 f5 v5 rfl rfl
    obtain ⟨_, t6⟩ := hall 6 f6 v6 rfl rfl
    obtain ⟨_, t7⟩ := hall 7 f7 v7 rfl rfl
    obtain ⟨_, t8⟩ := hall 8 f8 v8 rfl rfl
    obtain ⟨_, t9⟩ := hall 9 f9 v9 rfl rfl
    obtain ⟨_, t10⟩ := hall 10 f10 v10 rfl rfl
    obtain ⟨x0, rfl, _⟩ := NB.f_int i0 t0
    obtain ⟨x1, rfl, y1⟩ := NB.f_u64 i1 t1
    obtain ⟨x2, rfl, y2⟩ := NB.f_u64 i2 t2
    obtain ⟨x3, rfl, _⟩ := NB.f_int i3 t3
    obtain ⟨x4, rfl, _⟩ := NB.f_int i4 t4
    obtain ⟨x5, rfl, y5⟩ := NB.f_u64 i5 t5
    obtain ⟨x6, rfl, y6⟩ := NB.f_u64 i6 t6
    obtain ⟨x7, rfl, y7⟩ := NB.f_u64 i7 t7
    obtain ⟨x8, rfl, _⟩ := NB.f_int i8 t8
    obtain ⟨av, nv, cv, xs, rfl, hx⟩ := NB.open_nums h9 he ce t9
    obtain ⟨ab, nb, cb, bs, rfl, hbs⟩ := NB.open_bytes h10 hb cb t10
    obtain rfl : xs.length = nv := NB.RdU.size hx
    obtain rfl : bs.length = nb := NB.RdB.size hbs
    exact ⟨⟨x0, x1, x2, x3, x4, x5, x6, x7, x8, xs, bs⟩, av, cv, ab, cb, rfl, ⟨y1, y2, y5, y6, y7, hx.2⟩, ⟨hx, hbs⟩⟩
end
end Go.Proofs.YtadgokegjmigoaaDoor
