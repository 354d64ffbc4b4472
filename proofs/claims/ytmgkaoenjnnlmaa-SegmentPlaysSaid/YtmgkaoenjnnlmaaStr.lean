/- Rows of strings. -/
import Derived.Test.YtmgkaoenjnnlmaaDsx
namespace Go.Proofs.Ytmgkaoenjnnlmaa
open Go.RowKit
open Go.NB (Rd Dk Kp Stp Off Dis)

theorem slTS : NB.SlT Try.prog 32 9 (.string ⟨#[]⟩) 1 16 :=
  ⟨Try.underlying32, info_parts (by kernel_rfl), rfl, by omega⟩
def strL (b : List UInt8) : Value := .string ⟨b.toArray⟩
def strsL (l : List (List UInt8)) : List Value := l.map strL
theorem str_rd (w : World) (b : List UInt8) {g : Nat} (hg : g = w.heap.size) : Rd 1 (w.alloc (.cells #[.string ⟨b.toArray⟩] 9)) (some ⟨g, 0, none⟩) 1 1 [strL b] :=
  NB.rd_new w #[.string ⟨b.toArray⟩] 9 1 rfl (by unfold maxLen; omega) hg
theorem strs_one (l : List (List UInt8)) : ∀ u ∈ strsL l, u.oneCell' = true := by
  intro u hu
  simp only [strsL, List.mem_map] at hu
  obtain ⟨b, _, rfl⟩ := hu
  rfl
theorem str_one (b : List UInt8) : ∀ u ∈ [strL b], u.oneCell' = true := strs_one [b]
theorem strs_len (l : List (List UInt8)) : (strsL l).length = l.length := by simp [strsL]
theorem strs_at (l : List (List UInt8)) (j : Nat) (h : j < l.length) : (strsL l)[j]? = some (strL (l.getD j [])) := by
  rw [strsL, List.getElem?_map, List.getD_eq_getElem?_getD, List.getElem?_eq_getElem h]; rfl
theorem strs_succ (l : List (List UInt8)) (j : Nat) (h : j < l.length) : strsL (l.take j) ++ [strL (l.getD j [])] = strsL (l.take (j + 1)) := by
  rw [NB.take_getD l j h (d := []), strsL, strsL, List.map_append]; rfl
theorem strs_set (l : List (List UInt8)) (j : Nat) (b : List UInt8) : (strsL l).set j (strL b) = strsL (l.set j b) := by
  rw [strsL, strsL, List.map_set]

/-- A row of cells. -/
def Rw (w : World) (g : Nat) (vs : List Value) (t : TypeId) : Prop := w.heap[g]? = some (.cells vs.toArray t (0, 0))
theorem Rw.lt {w : World} {g : Nat} {vs : List Value} {t : TypeId} (h : Rw w g vs t) : g < w.heap.size := (Array.getElem?_eq_some_iff.1 h).1
theorem Rw.below {w w' : World} {g : Nat} {vs : List Value} {t : TypeId} (h : Rw w g vs t) (hb : Below w.heap.size w w') : Rw w' g vs t := (hb.block g h.lt).trans h
theorem Rw.keep {F : Nat → Prop} {w w' : World} {g : Nat} {vs : List Value} {t : TypeId} (h : Rw w g vs t) (hk : Kp F w w') (hF : ¬ F g) : Rw w' g vs t := (hk.block g h.lt hF).trans h
theorem Rw.set {w : World} {g : Nat} {vs : List Value} {t : TypeId} (h : Rw w g vs t) (k : Nat) (v : Value) : Rw (w.setCell ⟨g, k, none⟩ v) g (vs.set k v) t := by
  unfold Rw
  rw [heap_setCell_same _ _ _ _ _ _ h]
  simp
theorem Rw.other {w : World} {g g' : Nat} {vs : List Value} {t : TypeId} (h : Rw w g vs t) (hg : g ≠ g') (k : Nat) (v : Value) : Rw (w.setCell ⟨g', k, none⟩ v) g vs t := by
  unfold Rw
  rw [heap_setCell_other w _ _ _ hg]
  exact h
theorem Rw.cell {w : World} {g : Nat} {vs : List Value} {t : TypeId} (h : Rw w g vs t) (k : Nat) (v : Value) (hv : vs[k]? = some v) : w.cell? ⟨g, k, none⟩ = some v := by
  rw [cell_of_row _ _ _ _ _ _ h]
  simpa using hv
theorem Rw.free {w : World} {g : Nat} {vs : List Value} {t : TypeId} (h : Rw w g vs t) (k : Nat) : w.frozen? ⟨g, k, none⟩ = false := frozen_of_row _ _ _ _ _ h
theorem rw_new (w : World) (vs : List Value) (t : TypeId) {g : Nat} (hg : g = w.heap.size) : Rw (w.alloc (.cells vs.toArray t)) g vs t := by
  subst hg
  exact heap_alloc_new w _
theorem own_set {w : World} {base : Nat} {e : TypeId} {v : Value} {n : Nat} {xs : List Value} (h : w.ownsRow base e 1 v n xs) (k : Nat) (hk : k < n) (u : Value) :
    ∃ g cap x, v = .slice (some ⟨g, 0, none⟩) n cap ∧ base ≤ g ∧ w.cell? ⟨g, k, none⟩ = some x ∧ w.frozen? ⟨g, k, none⟩ = false ∧ n ≤ cap ∧ cap ≤ maxLen ∧ (w.setCell ⟨g, k, none⟩ u).ownsRow base e 1 v n (xs.set k u) := by
  obtain ⟨h1, h2⟩ := h
  rcases h2 with ⟨_, rfl⟩ | ⟨g, cap, cur, rfl, hb, hg, hle, hm, hs, ht⟩
  · omega
  · have hks : k < cur.size := by omega
    refine ⟨g, cap, cur[k], rfl, hb, ?_, frozen_of_row _ _ _ _ _ hg, hle, hm, by simpa using h1, .inr ⟨g, cap, _, rfl, hb, heap_setCell_same w g k _ e u hg, hle, hm, by simpa using hs, ?_⟩⟩
    · rw [cell_of_row _ _ _ _ _ _ hg]
      exact Array.getElem?_eq_getElem hks
    · rw [Array.toList_setIfInBounds, List.take_set, ht]
end Go.Proofs.Ytmgkaoenjnnlmaa
