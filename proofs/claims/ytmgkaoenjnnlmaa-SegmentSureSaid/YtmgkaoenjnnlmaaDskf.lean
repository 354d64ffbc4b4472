/- The disk's New, walked. -/
import Derived.Test.YtmgkaoenjnnlmaaDske
namespace Go.Proofs.Ytmgkaoenjnnlmaa
open Go.RowKit
open Go.NB (Rd Dk Kp footD)

theorem slTD : NB.SlT Try.prog 75 95 (.agg zB.toArray) 64 64 :=
  ⟨Try.underlying75, info_parts (by kernel_rfl), by kernel_rfl, by omega⟩

theorem made_zero (n : Nat) : (madeCells zB.toArray (n * 64)).toList = NB.flatL (List.replicate n (List.replicate 64 0)) := by
  have e1 : NB.flatL (List.replicate n (List.replicate 64 0)) = List.replicate (n * 64) (.int .u8 0) := by
    unfold NB.flatL
    rw [List.flatten_replicate_replicate, List.map_replicate]
    rfl
  have hz : zB.toArray.size = 64 := by simp [zB]
  have e2 : ∀ x : Nat, zB.toArray[x % zB.toArray.size]! = .int .u8 0 := by
    intro x
    have hlt : x % zB.toArray.size < zB.toArray.size := Nat.mod_lt _ (by omega)
    rw [getElem!_pos zB.toArray _ hlt, List.getElem_toArray]
    exact List.getElem_replicate _
  rw [e1]
  unfold madeCells
  simp only [e2]
  simp [List.map_const']

/-- A row that is full is just what it was made of. -/
theorem row_full {w : World} {base : Nat} {e : TypeId} {size g n : Nat} {xs : List Value} (h : w.ownsRow base e size (.slice (some ⟨g, 0, none⟩) n n) n xs) : w.heap[g]? = some (.cells xs.toArray e (0, 0)) := by
  rcases h.2 with ⟨h0, _⟩ | ⟨g', cap, cur, hv, hb, hg, hle, hm, hs, ht⟩
  · cases h0
  · cases hv
    rw [hg]
    have : cur = xs.toArray := by
      apply Array.ext'
      rw [← ht, List.take_of_length_le (by rw [Array.length_toList, hs]; exact Nat.le_refl _)]
    rw [this]

theorem new_bad (w : World) (n : Int) (h : n < 1 ∨ 65536 < n) : Calls Try.prog 10 #[.int .i64 n] w fun e w' => e = .returned (.tuple #[.pointer none, .int .i64 1]) ∧ w' = w := by
  by_cases h1 : n < 1
  · go_enter Try.func10, Try.ntmps10
    go_wp2
    go_ret2
    exact ⟨rfl, rfl⟩
  · have h2 : 65536 < n := by omega
    go_enter Try.func10, Try.ntmps10
    go_wp2
    go_ret2
    exact ⟨rfl, rfl⟩

/-- A new disk. -/
def NewD (w : World) (n : Nat) (e : Ending) (w' : World) : Prop :=
  ∃ p bl, e = .returned (.tuple #[.pointer (some ⟨p, 0, none⟩), .int .i64 0]) ∧ IsD w' w.heap.size p bl (.slice none 0 0) (Dk.fresh n) ∧ Below w.heap.size w w'

set_option maxRecDepth 100000 in
set_option maxHeartbeats 1000000 in
theorem new_any (w : World) (n : Nat) (h1 : 1 ≤ n) (h2 : n ≤ 65536) : Calls Try.prog 10 #[.int .i64 n] w (NewD w n) := by
  obtain ⟨i, hi, hz, hsz, hby⟩ := slTD.hi
  have g1 : ¬ (n : Int) < 1 := by omega
  have g2 : ¬ 65536 < (n : Int) := by omega
  go_enter Try.func10, Try.ntmps10
  go_wp2_with (first
    | (at_make; refine wpList_make_full w rfl (.tmp 10) (.tmp 10) 75 rfl w.heap.size 95 i (.agg zB.toArray) 64 slTD.ht hi hz hsz .i64 .i64 n n n rfl rfl rfl rfl (by rw [hby]; omega) (by unfold maxLen; omega) (Nat.le_refl _) ?_; intro w2 ho2 hg2))
  go_ret2
  have hr2 := row_full ho2
  have hr3 : w2.heap[w.heap.size]? = some (.cells (NB.flatL (List.replicate n (List.replicate 64 0))).toArray 95 (0, 0)) := by
    rw [← made_zero n]; exact hr2
  have hlt := (Array.getElem?_eq_some_iff.1 hr3).1
  have hB : Below w.heap.size w w2 := (Below.refl _ w).grown hg2 (Nat.le_refl _) (by rintro k hk; cases hk)
  refine ⟨w2.heap.size, w.heap.size, rfl, ?_, hB.alloc hB.size _⟩
  exact
    { hp := by rw [heap_alloc_new]; simp [Dk.fresh]
      hl := by rw [Below.heap_alloc _ _ _ hlt]; exact hr3
      hw := World.ownsRow_nil _ _ _ _
      l64 := fun b hb => by have := List.eq_of_mem_replicate hb; subst this; simp
      w64 := fun x hx => nomatch hx
      left := by simp [Dk.fresh]
      n := by simp [Dk.fresh]; omega
      bp := by omega
      bbl := Nat.le_refl _
      ne := by omega
      neW := fun k e => nomatch e }
end Go.Proofs.Ytmgkaoenjnnlmaa
