/- The references on numbers, walked: what is read. -/
import Derived.Test.YtnkmlopgfgdajaaNre
import Derived.Test.YtnkmlopgfgdajaaNump
namespace Go.Proofs.Ytnkmlopgfgdajaa
open Go.RowKit
open Go.NB (Rd digs encU encB Rr val)

/-- A reader of the reference. -/
def refR (r : Rr) : Value := .agg #[.string ⟨r.b.toArray⟩, .int .i64 r.e]
def RefRS (w : World) (r : Rr × List UInt8) (e : Ending) (w' : World) : Prop := e = .returned (.tuple #[.agg #[.string ⟨r.1.b.toArray⟩, .int .i64 r.1.e], .string ⟨r.2.toArray⟩]) ∧ Below w.heap.size w w'
def RefRU (w : World) (r : Rr × Nat) (e : Ending) (w' : World) : Prop := e = .returned (.tuple #[.agg #[.string ⟨r.1.b.toArray⟩, .int .i64 r.1.e], .int .u64 (r.2 : Int)]) ∧ Below w.heap.size w w'

theorem bcell {W w1 : World} (hb : Below W.heap.size W w1) : (∀ b o, b < W.heap.size → w1.cell? ⟨b, o, none⟩ = W.cell? ⟨b, o, none⟩) ∧ (∀ b o, b < W.heap.size → w1.frozen? ⟨b, o, none⟩ = W.frozen? ⟨b, o, none⟩) :=
  ⟨fun b o h => hb.cell (p := ⟨b, o, none⟩) h, fun b o h => hb.frozen (p := ⟨b, o, none⟩) h⟩
theorem two_rows {w w1 : World} {a b c d : Value} {t t' : TypeId} (hb : Below ((w.alloc (.cells #[a, b] t)).alloc (.cells #[c, d] t')).heap.size ((w.alloc (.cells #[a, b] t)).alloc (.cells #[c, d] t')) w1) :
    w1.heap[w.heap.size]? = some (.cells #[a, b] t (0, 0)) ∧ w1.heap[w.heap.size + 1]? = some (.cells #[c, d] t' (0, 0)) := by
  refine ⟨?_, ?_⟩
  · rw [hb.block _ (by simp; omega), Below.heap_alloc _ _ _ (by simp)]
    exact heap_alloc_new w _
  · rw [hb.block _ (by simp)]
    have := heap_alloc_new (w.alloc (.cells #[a, b] t)) (.cells #[c, d] t')
    simpa using this
/-- A row of two cells. -/
structure Row2 (w : World) (g : Nat) (a b : Value) (t : TypeId) : Prop where
  c0 : w.cell? ⟨g, 0, none⟩ = some a
  c1 : w.cell? ⟨g, 1, none⟩ = some b
  f0 : w.frozen? ⟨g, 0, none⟩ = false
  f1 : w.frozen? ⟨g, 1, none⟩ = false
  lt : g < w.heap.size
  row : w.heap[g]? = some (.cells #[a, b] t (0, 0))
theorem row2 {w : World} {g : Nat} {a b : Value} {t : TypeId} (h : w.heap[g]? = some (.cells #[a, b] t (0, 0))) : Row2 w g a b t :=
  ⟨by rw [cell_of_row _ _ _ _ _ _ h]; rfl, by rw [cell_of_row _ _ _ _ _ _ h]; rfl, frozen_of_row _ _ _ _ _ h, frozen_of_row _ _ _ _ _ h, (Array.getElem?_eq_some_iff.1 h).1, h⟩
theorem Row2.set {w : World} {g : Nat} {a b : Value} {t : TypeId} (h : Row2 w g a b t) (x y : Value) : Row2 ((w.setCell ⟨g, 0, none⟩ x).setCell ⟨g, 1, none⟩ y) g x y t := by
  have h1 := heap_setCell_same w g 0 _ t x h.row
  exact row2 (by rw [heap_setCell_same _ g 1 _ t y h1]; rfl)
theorem Row2.set1 {w : World} {g : Nat} {a b : Value} {t : TypeId} (h : Row2 w g a b t) (y : Value) : Row2 (w.setCell ⟨g, 1, none⟩ y) g a y t :=
  row2 (by rw [heap_setCell_same w g 1 _ t y h.row]; rfl)
theorem Row2.other {w : World} {g g' : Nat} {a b : Value} {t : TypeId} (h : Row2 w g a b t) (hg : g ≠ g') (j : Nat) (x : Value) : Row2 (w.setCell ⟨g', j, none⟩ x) g a b t :=
  row2 (by rw [heap_setCell_other w _ _ _ hg]; exact h.row)
theorem Row2.below {w w' : World} {g : Nat} {a b : Value} {t : TypeId} (h : Row2 w g a b t) (hb : Below w.heap.size w w') : Row2 w' g a b t :=
  row2 (by rw [hb.block g h.lt]; exact h.row)

theorem two_cells {w w1 : World} {a b c d : Value} {t t' : TypeId} (hb : Below ((w.alloc (.cells #[a, b] t)).alloc (.cells #[c, d] t')).heap.size ((w.alloc (.cells #[a, b] t)).alloc (.cells #[c, d] t')) w1) :
    w1.cell? ⟨w.heap.size, 0, none⟩ = some a ∧ w1.cell? ⟨w.heap.size, 1, none⟩ = some b ∧ w1.cell? ⟨w.heap.size + 1, 0, none⟩ = some c ∧ w1.cell? ⟨w.heap.size + 1, 1, none⟩ = some d ∧
    w1.frozen? ⟨w.heap.size, 0, none⟩ = false ∧ w1.frozen? ⟨w.heap.size, 1, none⟩ = false ∧ w1.frozen? ⟨w.heap.size + 1, 0, none⟩ = false ∧ w1.frozen? ⟨w.heap.size + 1, 1, none⟩ = false ∧ w.heap.size + 2 ≤ w1.heap.size := by
  have h1 : w1.heap[w.heap.size]? = some (.cells #[a, b] t (0, 0)) := by
    rw [hb.block _ (by simp; omega), Below.heap_alloc _ _ _ (by simp)]
    exact heap_alloc_new w _
  have h2 : w1.heap[w.heap.size + 1]? = some (.cells #[c, d] t' (0, 0)) := by
    rw [hb.block _ (by simp)]
    have := heap_alloc_new (w.alloc (.cells #[a, b] t)) (.cells #[c, d] t')
    simpa using this
  refine ⟨?_, ?_, ?_, ?_, frozen_of_row _ _ _ _ _ h1, frozen_of_row _ _ _ _ _ h1, frozen_of_row _ _ _ _ _ h2, frozen_of_row _ _ _ _ _ h2, by have := hb.size; simp at this; omega⟩
  · rw [cell_of_row _ _ _ _ _ _ h1]; rfl
  · rw [cell_of_row _ _ _ _ _ _ h1]; rfl
  · rw [cell_of_row _ _ _ _ _ _ h2]; rfl
  · rw [cell_of_row _ _ _ _ _ _ h2]; rfl
theorem below2 (w : World) (o o' : Obj) : Below w.heap.size w ((w.alloc o).alloc o') := ((Below.refl _ _).alloc (Nat.le_refl _) _).alloc (by simp) _

set_option maxHeartbeats 1000000 in
theorem refRaw_any (w : World) (r : Rr) (n : Int) (hn : n ≤ 9223372036854775807) (hl : r.b.length ≤ 100000000) :
    Calls Try.prog 50 #[refR r, .int .i64 n] w (RefRS w (r.raw n)) := by
  by_cases he : r.e = 0
  · obtain ⟨b, e⟩ := r
    simp only at he hl
    subst he
    by_cases h0 : n < 0
    · have hq : Rr.raw ⟨b, 0⟩ n = (⟨b, 1⟩, []) := by simp only [Rr.raw, h0, if_true, Rr.fail_ok]
      rw [hq]
      unfold refR
      go_enter Try.func50, Try.ntmps50
      go_wp2
      exact bodyPost_ret (v := .tuple #[.agg #[.string ⟨b.toArray⟩, .int .i64 1], .string ⟨([] : List UInt8).toArray⟩]) (by simp [results, Try.results50, go_sem]) rfl ⟨rfl, below2 _ _ _⟩
    · obtain ⟨m, rfl⟩ := Int.eq_ofNat_of_zero_le (show 0 ≤ n by omega)
      by_cases h1 : b.length < m
      · have hq : Rr.raw ⟨b, 0⟩ (m : Int) = (⟨b, 10⟩, []) := by simp only [Rr.raw, h0, if_false, Int.toNat_natCast, Rr.take_short h1]
        rw [hq]
        unfold refR
        go_enter Try.func50, Try.ntmps50
        go_wp2
        exact bodyPost_ret (v := .tuple #[.agg #[.string ⟨b.toArray⟩, .int .i64 10], .string ⟨([] : List UInt8).toArray⟩]) (by simp [results, Try.results50, go_sem]) rfl ⟨rfl, below2 _ _ _⟩
      · have hq : Rr.raw ⟨b, 0⟩ (m : Int) = (⟨b.drop m, 0⟩, b.take m) := by simp only [Rr.raw, h0, if_false, Int.toNat_natCast, Rr.take_ok (Nat.not_lt.1 h1)]
        rw [hq]
        unfold refR
        have h2 : m ≤ b.length := by omega
        go_enter Try.func50, Try.ntmps50
        go_wp2
        exact bodyPost_ret (v := .tuple #[.agg #[.string ⟨(b.drop m).toArray⟩, .int .i64 0], .string ⟨(b.take m).toArray⟩]) (by simp [results, Try.results50, go_sem]) rfl ⟨rfl, below2 _ _ _⟩
  · have hq := Rr.raw_err he n
    have he' : (r.e != 0) = true := by simp [he]
    rw [hq]
    unfold refR
    clear he
    go_enter Try.func50, Try.ntmps50
    go_wp2
    exact bodyPost_ret (v := .tuple #[.agg #[.string ⟨r.b.toArray⟩, .int .i64 r.e], .string ⟨([] : List UInt8).toArray⟩]) (by simp [results, Try.results50, go_sem]) rfl ⟨rfl, below2 _ _ _⟩

set_option maxHeartbeats 1000000 in
theorem refEnd_any (w : World) (r : Rr) : Calls Try.prog 32 #[refR r] w fun e w' => e = .returned (.int .i64 r.fin) ∧ Below w.heap.size w w' := by
  have B := (Below.refl w.heap.size w).alloc (Nat.le_refl _) (.cells #[.string ⟨r.b.toArray⟩, .int .i64 r.e] 69)
  by_cases he : r.e = 0
  · have he' : (r.e == 0) = true := by simp [he]
    cases hb : r.b with
    | nil =>
      have hq : r.fin = r.e := by simp [Rr.fin, he, hb]
      rw [hq]
      rw [hb] at B
      unfold refR
      rw [hb]
      clear he
      go_enter Try.func32, Try.ntmps32
      go_wp2
      go_ret
      exact ⟨rfl, B⟩
    | cons y l =>
      have hq : r.fin = 12 := by simp [Rr.fin, he, hb]
      rw [hq]
      rw [hb] at B
      unfold refR
      rw [hb]
      clear he
      go_enter Try.func32, Try.ntmps32
      go_wp2
      go_ret
      exact ⟨rfl, B⟩
  · have he' : (r.e == 0) = false := by simp [he]
    have hq : r.fin = r.e := by simp [Rr.fin, he]
    rw [hq]
    unfold refR
    clear he
    go_enter Try.func32, Try.ntmps32
    go_wp2
    go_ret
    exact ⟨rfl, B⟩
end Go.Proofs.Ytnkmlopgfgdajaa
