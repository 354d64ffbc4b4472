/- Rows of cells: a block whose cells are known. No program in sight. -/
import Derived.Test.YtjfidhjnbcmhfaaKp
namespace Go.NB
open Go Go.RowKit
theorem oneB (w : World) (o : Obj) : Below w.heap.size w (w.alloc o) := (Below.refl _ _).alloc (Nat.le_refl _) _
theorem twoB (w : World) (o o' : Obj) : Below w.heap.size w ((w.alloc o).alloc o') := (oneB w o).alloc (by simp) _
theorem dB (w : World) : Below w.heap.size w w.drew := (Below.refl _ _).drew

/-- A row of cells. -/
def Rw (w : World) (g : Nat) (vs : List Value) (t : TypeId) : Prop := w.heap[g]? = some (.cells vs.toArray t (0, 0))
theorem Rw.lt {w : World} {g : Nat} {vs : List Value} {t : TypeId} (h : Rw w g vs t) : g < w.heap.size := (Array.getElem?_eq_some_iff.1 h).1
theorem Rw.below {w w' : World} {g : Nat} {vs : List Value} {t : TypeId} (h : Rw w g vs t) (hb : Below w.heap.size w w') : Rw w' g vs t := (hb.block g h.lt).trans h
theorem Rw.keep {F : Nat → Prop} {w w' : World} {g : Nat} {vs : List Value} {t : TypeId} (h : Rw w g vs t) (hk : Kp F w w') (hF : ¬ F g) : Rw w' g vs t := (hk.block g h.lt hF).trans h
theorem Rw.set {w : World} {g : Nat} {vs : List Value} {t : TypeId} (h : Rw w g vs t) (k : Nat) (v : Value) : Rw (w.setCell ⟨g, k, none⟩ v) g (vs.set k v) t := by
  unfold Rw
  rw [heap_setCell_same _ _ _ _ _ _ h]
  simp
theorem Rw.other {w : World} {g g' : Nat} {vs : List Value} {t : TypeId} (h : Rw w g vs t) (hg : g ≠ g') (k : Nat) (v : Value) : Rw (w.setCell ⟨g', k, none⟩ v) g vs t := by
  unfold Rw
  rw [heap_setCell_other w _ _ _ hg]
  exact h
theorem Rw.cell {w : World} {g : Nat} {vs : List Value} {t : TypeId} (h : Rw w g vs t) (k : Nat) (v : Value) (hv : vs[k]? = some v) : w.cell? ⟨g, k, none⟩ = some v := by
  rw [cell_of_row _ _ _ _ _ _ h]
  simpa using hv
theorem Rw.free {w : World} {g : Nat} {vs : List Value} {t : TypeId} (h : Rw w g vs t) (k : Nat) : w.frozen? ⟨g, k, none⟩ = false := frozen_of_row _ _ _ _ _ h
theorem rw_new (w : World) (vs : List Value) (t : TypeId) {g : Nat} (hg : g = w.heap.size) : Rw (w.alloc (.cells vs.toArray t)) g vs t := by
  subst hg
  exact heap_alloc_new w _
theorem rw1 {w : World} {g : Nat} {v0 : Value} {t : TypeId} (h : Rw w g [v0] t) :
    w.cell? ⟨g, 0, none⟩ = some v0 ∧ w.frozen? ⟨g, 0, none⟩ = false :=
  ⟨h.cell 0 _ rfl, h.free 0⟩
theorem rw2 {w : World} {g : Nat} {v0 v1 : Value} {t : TypeId} (h : Rw w g [v0, v1] t) :
    w.cell? ⟨g, 0, none⟩ = some v0 ∧ w.cell? ⟨g, 1, none⟩ = some v1 ∧ w.frozen? ⟨g, 0, none⟩ = false ∧ w.frozen? ⟨g, 1, none⟩ = false :=
  ⟨h.cell 0 _ rfl, h.cell 1 _ rfl, h.free 0, h.free 1⟩
theorem rw3 {w : World} {g : Nat} {v0 v1 v2 : Value} {t : TypeId} (h : Rw w g [v0, v1, v2] t) :
    w.cell? ⟨g, 0, none⟩ = some v0 ∧ w.cell? ⟨g, 1, none⟩ = some v1 ∧ w.cell? ⟨g, 2, none⟩ = some v2 ∧ w.frozen? ⟨g, 0, none⟩ = false ∧ w.frozen? ⟨g, 1, none⟩ = false ∧ w.frozen? ⟨g, 2, none⟩ = false :=
  ⟨h.cell 0 _ rfl, h.cell 1 _ rfl, h.cell 2 _ rfl, h.free 0, h.free 1, h.free 2⟩
theorem rw4 {w : World} {g : Nat} {v0 v1 v2 v3 : Value} {t : TypeId} (h : Rw w g [v0, v1, v2, v3] t) :
    w.cell? ⟨g, 0, none⟩ = some v0 ∧ w.cell? ⟨g, 1, none⟩ = some v1 ∧ w.cell? ⟨g, 2, none⟩ = some v2 ∧ w.cell? ⟨g, 3, none⟩ = some v3 ∧ w.frozen? ⟨g, 0, none⟩ = false ∧ w.frozen? ⟨g, 1, none⟩ = false ∧ w.frozen? ⟨g, 2, none⟩ = false ∧ w.frozen? ⟨g, 3, none⟩ = false :=
  ⟨h.cell 0 _ rfl, h.cell 1 _ rfl, h.cell 2 _ rfl, h.cell 3 _ rfl, h.free 0, h.free 1, h.free 2, h.free 3⟩
theorem rw5 {w : World} {g : Nat} {v0 v1 v2 v3 v4 : Value} {t : TypeId} (h : Rw w g [v0, v1, v2, v3, v4] t) :
    w.cell? ⟨g, 0, none⟩ = some v0 ∧ w.cell? ⟨g, 1, none⟩ = some v1 ∧ w.cell? ⟨g, 2, none⟩ = some v2 ∧ w.cell? ⟨g, 3, none⟩ = some v3 ∧ w.cell? ⟨g, 4, none⟩ = some v4 ∧ w.frozen? ⟨g, 0, none⟩ = false ∧ w.frozen? ⟨g, 1, none⟩ = false ∧ w.frozen? ⟨g, 2, none⟩ = false ∧ w.frozen? ⟨g, 3, none⟩ = false ∧ w.frozen? ⟨g, 4, none⟩ = false :=
  ⟨h.cell 0 _ rfl, h.cell 1 _ rfl, h.cell 2 _ rfl, h.cell 3 _ rfl, h.cell 4 _ rfl, h.free 0, h.free 1, h.free 2, h.free 3, h.free 4⟩
theorem rw6 {w : World} {g : Nat} {v0 v1 v2 v3 v4 v5 : Value} {t : TypeId} (h : Rw w g [v0, v1, v2, v3, v4, v5] t) :
    w.cell? ⟨g, 0, none⟩ = some v0 ∧ w.cell? ⟨g, 1, none⟩ = some v1 ∧ w.cell? ⟨g, 2, none⟩ = some v2 ∧ w.cell? ⟨g, 3, none⟩ = some v3 ∧ w.cell? ⟨g, 4, none⟩ = some v4 ∧ w.cell? ⟨g, 5, none⟩ = some v5 ∧ w.frozen? ⟨g, 0, none⟩ = false ∧ w.frozen? ⟨g, 1, none⟩ = false ∧ w.frozen? ⟨g, 2, none⟩ = false ∧ w.frozen? ⟨g, 3, none⟩ = false ∧ w.frozen? ⟨g, 4, none⟩ = false ∧ w.frozen? ⟨g, 5, none⟩ = false :=
  ⟨h.cell 0 _ rfl, h.cell 1 _ rfl, h.cell 2 _ rfl, h.cell 3 _ rfl, h.cell 4 _ rfl, h.cell 5 _ rfl, h.free 0, h.free 1, h.free 2, h.free 3, h.free 4, h.free 5⟩
theorem rw7 {w : World} {g : Nat} {v0 v1 v2 v3 v4 v5 v6 : Value} {t : TypeId} (h : Rw w g [v0, v1, v2, v3, v4, v5, v6] t) :
    w.cell? ⟨g, 0, none⟩ = some v0 ∧ w.cell? ⟨g, 1, none⟩ = some v1 ∧ w.cell? ⟨g, 2, none⟩ = some v2 ∧ w.cell? ⟨g, 3, none⟩ = some v3 ∧ w.cell? ⟨g, 4, none⟩ = some v4 ∧ w.cell? ⟨g, 5, none⟩ = some v5 ∧ w.cell? ⟨g, 6, none⟩ = some v6 ∧ w.frozen? ⟨g, 0, none⟩ = false ∧ w.frozen? ⟨g, 1, none⟩ = false ∧ w.frozen? ⟨g, 2, none⟩ = false ∧ w.frozen? ⟨g, 3, none⟩ = false ∧ w.frozen? ⟨g, 4, none⟩ = false ∧ w.frozen? ⟨g, 5, none⟩ = false ∧ w.frozen? ⟨g, 6, none⟩ = false :=
  ⟨h.cell 0 _ rfl, h.cell 1 _ rfl, h.cell 2 _ rfl, h.cell 3 _ rfl, h.cell 4 _ rfl, h.cell 5 _ rfl, h.cell 6 _ rfl, h.free 0, h.free 1, h.free 2, h.free 3, h.free 4, h.free 5, h.free 6⟩
theorem rw11 {w : World} {g : Nat} {v0 v1 v2 v3 v4 v5 v6 v7 v8 v9 v10 : Value} {t : TypeId} (h : Rw w g [v0, v1, v2, v3, v4, v5, v6, v7, v8, v9, v10] t) :
    w.cell? ⟨g, 0, none⟩ = some v0 ∧ w.cell? ⟨g, 1, none⟩ = some v1 ∧ w.cell? ⟨g, 2, none⟩ = some v2 ∧ w.cell? ⟨g, 3, none⟩ = some v3 ∧ w.cell? ⟨g, 4, none⟩ = some v4 ∧ w.cell? ⟨g, 5, none⟩ = some v5 ∧ w.cell? ⟨g, 6, none⟩ = some v6 ∧ w.cell? ⟨g, 7, none⟩ = some v7 ∧ w.cell? ⟨g, 8, none⟩ = some v8 ∧ w.cell? ⟨g, 9, none⟩ = some v9 ∧ w.cell? ⟨g, 10, none⟩ = some v10 ∧ w.frozen? ⟨g, 0, none⟩ = false ∧ w.frozen? ⟨g, 1, none⟩ = false ∧ w.frozen? ⟨g, 2, none⟩ = false ∧ w.frozen? ⟨g, 3, none⟩ = false ∧ w.frozen? ⟨g, 4, none⟩ = false ∧ w.frozen? ⟨g, 5, none⟩ = false ∧ w.frozen? ⟨g, 6, none⟩ = false ∧ w.frozen? ⟨g, 7, none⟩ = false ∧ w.frozen? ⟨g, 8, none⟩ = false ∧ w.frozen? ⟨g, 9, none⟩ = false ∧ w.frozen? ⟨g, 10, none⟩ = false :=
  ⟨h.cell 0 _ rfl, h.cell 1 _ rfl, h.cell 2 _ rfl, h.cell 3 _ rfl, h.cell 4 _ rfl, h.cell 5 _ rfl, h.cell 6 _ rfl, h.cell 7 _ rfl, h.cell 8 _ rfl, h.cell 9 _ rfl, h.cell 10 _ rfl, h.free 0, h.free 1, h.free 2, h.free 3, h.free 4, h.free 5, h.free 6, h.free 7, h.free 8, h.free 9, h.free 10⟩
/-- A row that is owned whole. -/
theorem rw_of_own {w : World} {base : Nat} {e : TypeId} {g n : Nat} {xs : List Value} (h : w.ownsRow base e 1 (.slice (some ⟨g, 0, none⟩) n n) n xs) (hn : 0 < n) : Rw w g xs e := by
  obtain ⟨h1, h2⟩ := h
  rcases h2 with ⟨h0, _⟩ | ⟨g', cap, cur, hv, hb, hg, hle, hm, hs, ht⟩
  · omega
  · cases hv
    unfold Rw
    have : cur.toList = xs := by rw [← ht, List.take_of_length_le (by simp; omega)]
    rw [hg, ← this]
theorem ne_int {x y : Nat} (h : x ≠ y) : ((x : Int) == (y : Int)) = false := by rw [beq_eq_false_iff_ne]; omega
theorem eq_int {x y : Nat} (h : x = y) : ((x : Int) == (y : Int)) = true := by rw [h]; simp
end Go.NB
