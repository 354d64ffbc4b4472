/- The disk's small calls, walked. -/
import Derived.Test.YtmgkaoenjnnlmaaRows
import Derived.Test.YtmgkaoenjnnlmaaDsk
namespace Go.Proofs.Ytmgkaoenjnnlmaa
open Go.RowKit
open Go.NB (Rd Dk Kp footD)

abbrev IsD (w : World) (base p bl : Nat) (vW : Value) (D : Dk) : Prop := NB.IsDisk 78 95 97 w base p bl vW D

set_option maxHeartbeats 400000 in
theorem up_nil (w : World) : Calls Try.prog 66 #[.pointer none] w fun e w' => e = .returned (.int .i64 1) ∧ w' = w := by
  go_enter Try.func66, Try.ntmps66
  go_wp2
  go_ret
  exact ⟨rfl, rfl⟩

set_option maxHeartbeats 400000 in
theorem up_any (w : World) (base p bl : Nat) (vW : Value) (D : Dk) (h : IsD w base p bl vW D) :
    Calls Try.prog 66 #[.pointer (some ⟨p, 0, none⟩)] w fun e w' => e = .returned (.int .i64 D.up) ∧ w' = w := by
  have c3 := h.cell 3 _ rfl
  unfold Dk.up
  cases hd : D.down with
  | true =>
    rw [hd] at c3
    clear hd
    go_enter Try.func66, Try.ntmps66
    go_wp2
    go_ret
    exact ⟨rfl, rfl⟩
  | false =>
    rw [hd] at c3
    clear hd
    go_enter Try.func66, Try.ntmps66
    go_wp2
    go_ret
    exact ⟨rfl, rfl⟩

set_option maxHeartbeats 400000 in
theorem at_nil (w : World) (i : Int) : Calls Try.prog 52 #[.pointer none, .int .i64 i] w fun e w' => e = .returned (.int .i64 1) ∧ w' = w := by
  go_enter Try.func52, Try.ntmps52
  go_wp2_with (go_at_call 66; refine (up_nil _).mono ?_; rintro e w' ⟨rfl, rfl⟩)
  go_ret
  exact ⟨rfl, rfl⟩

set_option maxHeartbeats 400000 in
theorem at_any (w : World) (base p bl : Nat) (vW : Value) (D : Dk) (i : Int) (h : IsD w base p bl vW D) :
    Calls Try.prog 52 #[.pointer (some ⟨p, 0, none⟩), .int .i64 i] w fun e w' => e = .returned (.int .i64 (D.at_ i)) ∧ w' = w := by
  have c0 := h.cell 0 _ rfl
  unfold Dk.at_
  have hu : D.up = if D.down then 20 else 0 := rfl
  cases hd : D.down with
  | true =>
    rw [hd] at hu
    have HU := Go.Lib.hid hu; clear hu hd
    go_enter Try.func52, Try.ntmps52
    go_wp2_with (go_at_call 66; refine (up_any _ _ _ _ _ _ h).mono ?_; rw [HU.out]; rintro e w' ⟨rfl, rfl⟩)
    go_ret
    exact ⟨rfl, rfl⟩
  | false =>
    rw [hd] at hu
    have HU := Go.Lib.hid hu; clear hu hd
    by_cases h1 : i < 0
    · go_enter Try.func52, Try.ntmps52
      go_wp2_with (go_at_call 66; refine (up_any _ _ _ _ _ _ h).mono ?_; rw [HU.out]; rintro e w' ⟨rfl, rfl⟩)
      go_ret
      exact ⟨by simp [h1], rfl⟩
    · by_cases h2 : (D.l.length : Int) ≤ i
      · go_enter Try.func52, Try.ntmps52
        go_wp2_with (go_at_call 66; refine (up_any _ _ _ _ _ _ h).mono ?_; rw [HU.out]; rintro e w' ⟨rfl, rfl⟩)
        go_ret
        exact ⟨by simp [h2], rfl⟩
      · go_enter Try.func52, Try.ntmps52
        go_wp2_with (go_at_call 66; refine (up_any _ _ _ _ _ _ h).mono ?_; rw [HU.out]; rintro e w' ⟨rfl, rfl⟩)
        go_ret
        exact ⟨by simp [h1, h2], rfl⟩

set_option maxHeartbeats 400000 in
theorem counts_any (w : World) (base p bl : Nat) (vW : Value) (D : Dk) (h : IsD w base p bl vW D) :
    Calls Try.prog 53 #[.pointer (some ⟨p, 0, none⟩)] w fun e w' => e = .returned (.int .i64 D.counts.2) ∧ IsD w' base p bl vW D.counts.1 ∧ Kp (footD p bl vW) w w' := by
  have c2 := h.cell 2 _ rfl
  have c3 := h.cell 3 _ rfl
  have f2 := h.free 2
  have f3 := h.free 3
  have hl := h.left
  by_cases h0 : D.left = 0
  · have e0 : (D.left == 0) = true := by simp [h0]
    have hc : D.counts = ({ D with down := true }, 20) := by simp [Dk.counts, h0]
    rw [hc]
    have hn := h.field 3 (.bool true) D.left true hl rfl
    go_enter Try.func53, Try.ntmps53
    go_wp2
    go_ret
    exact ⟨rfl, hn, NB.IsDisk.kp_field _ _⟩
  · have e0 : (D.left == 0) = false := by simp [h0]
    by_cases h1 : D.left = -1
    · have hc : D.counts = ({ D with left := -1 }, 0) := by simp only [Dk.counts, h0, if_false]; rw [show max (D.left - 1) (-1) = -1 by omega]
      rw [hc]
      have hn := h.field 2 (.int .i64 (-1)) (-1) D.down (by omega) rfl
      have h2 : D.left - 1 < -1 := by omega
      go_enter Try.func53, Try.ntmps53
      go_wp2
      go_ret
      exact ⟨rfl, hn, NB.IsDisk.kp_field _ _⟩
    · have hc : D.counts = ({ D with left := D.left - 1 }, 0) := by simp only [Dk.counts, h0, if_false]; rw [show max (D.left - 1) (-1) = D.left - 1 by omega]
      rw [hc]
      have hn := h.field 2 (.int .i64 (D.left - 1)) (D.left - 1) D.down (by omega) rfl
      have h2 : ¬ D.left - 1 < -1 := by omega
      have h3 : -1 ≤ D.left - 1 := by omega
      clear h1 hc
      go_enter Try.func53, Try.ntmps53
      go_wp2
      go_ret
      exact ⟨rfl, hn, NB.IsDisk.kp_field _ _⟩

set_option maxHeartbeats 400000 in
theorem stop_nil (w : World) (x : Int) : Calls Try.prog 19 #[.pointer none, .int .i64 x] w fun e w' => e = .returned (.tuple #[]) ∧ w' = w := by
  go_enter Try.func19, Try.ntmps19
  go_wp2
  go_end0
  exact ⟨rfl, rfl⟩

set_option maxHeartbeats 400000 in
theorem stop_any (w : World) (base p bl : Nat) (vW : Value) (D : Dk) (x : Int) (hx : x ≤ 9223372036854775807) (h : IsD w base p bl vW D) :
    Calls Try.prog 19 #[.pointer (some ⟨p, 0, none⟩), .int .i64 x] w fun e w' => e = .returned (.tuple #[]) ∧ IsD w' base p bl vW (D.stop x) ∧ Kp (footD p bl vW) w w' := by
  have c2 := h.cell 2 _ rfl
  have f2 := h.free 2
  by_cases h1 : x < -1
  · have hc : D.stop x = { D with left := -1 } := by simp only [Dk.stop]; rw [show max x (-1) = -1 by omega]
    rw [hc]
    have hn := h.field 2 (.int .i64 (-1)) (-1) D.down (by omega) rfl
    go_enter Try.func19, Try.ntmps19
    go_wp2
    go_end0
    exact ⟨rfl, hn, NB.IsDisk.kp_field _ _⟩
  · have hc : D.stop x = { D with left := x } := by simp only [Dk.stop]; rw [show max x (-1) = x by omega]
    rw [hc]
    have hn := h.field 2 (.int .i64 x) x D.down (by omega) rfl
    have h2 : -1 ≤ x := by omega
    clear hc
    go_enter Try.func19, Try.ntmps19
    go_wp2
    go_end0
    exact ⟨rfl, hn, NB.IsDisk.kp_field _ _⟩

set_option maxHeartbeats 400000 in
theorem waits_nil (w : World) : Calls Try.prog 58 #[.pointer none] w fun e w' => e = .returned (.int .i64 0) ∧ w' = w := by
  go_enter Try.func58, Try.ntmps58
  go_wp2
  go_ret
  exact ⟨rfl, rfl⟩

set_option maxHeartbeats 400000 in
theorem waits_any (w : World) (base p bl : Nat) (vW : Value) (D : Dk) (h : IsD w base p bl vW D) :
    Calls Try.prog 58 #[.pointer (some ⟨p, 0, none⟩)] w fun e w' => e = .returned (.int .i64 (D.waits.length : Int)) ∧ w' = w := by
  obtain ⟨a, c, hv, _⟩ := NB.rd_of_own h.hw
  have c1 := h.cell 1 _ rfl
  have c1' : w.cell? ⟨p, 1, none⟩ = some (.slice a D.waits.length c) := by rw [c1, ← hv]; rfl
  clear c1
  go_enter Try.func58, Try.ntmps58
  go_wp2
  go_ret
  exact ⟨rfl, rfl⟩

set_option maxHeartbeats 400000 in
theorem len_nil (w : World) : Calls Try.prog 35 #[.pointer none] w fun e w' => e = .returned (.int .i64 0) ∧ w' = w := by
  go_enter Try.func35, Try.ntmps35
  go_wp2
  go_ret
  exact ⟨rfl, rfl⟩

set_option maxHeartbeats 400000 in
theorem len_any (w : World) (base p bl : Nat) (vW : Value) (D : Dk) (h : IsD w base p bl vW D) :
    Calls Try.prog 35 #[.pointer (some ⟨p, 0, none⟩)] w fun e w' => e = .returned (.int .i64 (D.l.length : Int)) ∧ w' = w := by
  have c0 := h.cell 0 _ rfl
  go_enter Try.func35, Try.ntmps35
  go_wp2
  go_ret
  exact ⟨rfl, rfl⟩

set_option maxHeartbeats 400000 in
theorem down_nil (w : World) : Calls Try.prog 57 #[.pointer none] w fun e w' => e = .returned (.bool false) ∧ w' = w := by
  go_enter Try.func57, Try.ntmps57
  go_wp2
  go_ret
  exact ⟨rfl, rfl⟩

set_option maxHeartbeats 400000 in
theorem down_any (w : World) (base p bl : Nat) (vW : Value) (D : Dk) (h : IsD w base p bl vW D) :
    Calls Try.prog 57 #[.pointer (some ⟨p, 0, none⟩)] w fun e w' => e = .returned (.bool D.down) ∧ w' = w := by
  have c3 := h.cell 3 _ rfl
  go_enter Try.func57, Try.ntmps57
  go_wp2
  go_ret
  exact ⟨rfl, rfl⟩
end Go.Proofs.Ytmgkaoenjnnlmaa
