/- The reader of numbers, walked. -/
import Derived.Test.YtjfidhjnbcmhfaaNuma
namespace Go.Proofs.Ytjfidhjnbcmhfaa
open Go.RowKit
open Go.NB (Rd Kp Stp Off Dis Rr footR)

abbrev HasR (w : World) (base p : Nat) (F : Nat → Prop) (r : Rr) : Prop := NB.HasRr 120 w base p F r
abbrev IsR (w : World) (base p : Nat) (a : Option Addr) (n c : Nat) (r : Rr) : Prop := NB.IsRr 120 w base p a n c r

set_option maxHeartbeats 400000 in
theorem rfail_any (w : World) (base p : Nat) (a : Option Addr) (n c : Nat) (r : Rr) (x : Int) (h : IsR w base p a n c r) :
    Calls Try.prog 63 #[.pointer (some ⟨p, 0, none⟩), .int .i64 x] w fun e w' => e = .returned (.tuple #[]) ∧ IsR w' base p a n c (r.fail x) ∧ Stp (footR p a) (footR p a) w w' := by
  have c1 := h.cell1
  have f1 := h.free 1
  by_cases h0 : r.e = 0
  · have e0 : (r.e == 0) = true := by simp [h0]
    have hq : r.fail x = { r with e := x } := by simp [Rr.fail, h0]
    rw [hq]
    have hn := h.err x
    clear h0
    go_enter Try.func63, Try.ntmps63
    go_wp2
    go_end0
    exact ⟨rfl, hn, (Kp.refl _ _).setCell (.inl (.inl rfl)) _, fun _ h => .inl h⟩
  · have e0 : (r.e == 0) = false := by simp [h0]
    have hq : r.fail x = r := by simp [Rr.fail, h0]
    rw [hq]
    go_enter Try.func63, Try.ntmps63
    go_wp2
    go_end0
    exact ⟨rfl, h, Stp.refl _ _⟩

/-- What is read: bytes in the reader's own block. -/
def TookR (w : World) (base p : Nat) (F : Nat → Prop) (r : Rr × List UInt8) (e : Ending) (w' : World) : Prop :=
  ∃ a c F', e = .returned (.slice a r.2.length c) ∧ NB.RdB w' a r.2.length c r.2 ∧ HasR w' base p F' r.1 ∧ Stp F F' w w'

set_option maxHeartbeats 1000000 in
theorem rtake_any (w : World) (base p : Nat) (F : Nat → Prop) (r : Rr) (n : Nat) (hn : n ≤ 9223372036854775807) (h : HasR w base p F r) :
    Calls Try.prog 62 #[.pointer (some ⟨p, 0, none⟩), .int .i64 (n : Int)] w (TookR w base p F (r.take n)) := by
  obtain ⟨a, m, c, h, rfl⟩ := h
  have c0 := h.cell0
  have c1 := h.cell1
  have f0 := h.free 0
  have hsz := NB.RdB.size h.rd
  have hbd := Rd.bound h.rd
  have hle := h.rd.le
  by_cases he : r.e = 0
  · have e0 : (r.e != 0) = false := by simp [he]
    by_cases hnm : m < n
    · have hq : r.take n = ({ r with e := 10 }, []) := by simp [Rr.take, he, show r.b.length < n by omega]
      have hf : r.fail 10 = { r with e := 10 } := by simp [Rr.fail, he]
      rw [hq]
      have hnm' : (m : Int) < (n : Int) := by omega
      clear he
      go_enter Try.func62, Try.ntmps62
      go_wp2_with (first
        | (go_at_call 63; refine (rfail_any _ _ _ _ _ _ _ _ h).mono ?_; rw [hf]; rintro e w1 ⟨rfl, hR1, hS1⟩; have d1 := hR1.cell1))
      go_ret
      exact ⟨none, 0, _, rfl, Rd.nil_mk, ⟨_, _, _, hR1, rfl⟩, hS1⟩
    · have hq : r.take n = ({ r with b := r.b.drop n }, r.b.take n) := by simp [Rr.take, he, show ¬ r.b.length < n by omega]
      rw [hq]
      have hnm' : (n : Int) ≤ (m : Int) := by omega
      have hnm2 : n ≤ m := by omega
      have hnc : n ≤ c := by omega
      have hl : (r.b.take n).length = n := by simp; omega
      have hcut := h.cut n hnm2
      have hkp := fun v => h.cut_stp n hnm2 v
      have hrd := h.rd.front n hnm2
      rw [Nat.mul_one, ← List.map_take] at hrd
      have hrd' := fun v => h.kept hrd 0 v
      clear he hnm
      by_cases hcn : c = n
      · subst hcn
        simp only [if_true] at hcut hkp
        have hmc : m - c = 0 := by omega
        have hcc : c - c = 0 := by omega
        rw [hmc, hcc] at hcut
        clear hmc hcc
        go_enter Try.func62, Try.ntmps62
        go_wp2
        go_ret
        refine ⟨a, c, _, ?_, by rw [hl]; exact hrd' _, ⟨_, _, _, hcut, rfl⟩, hkp _⟩
        show _ = Ending.returned (.slice a (r.b.take c).length c)
        rw [hl]; rfl
      · simp only [hcn, if_false] at hcut hkp
        go_enter Try.func62, Try.ntmps62
        go_wp2
        go_ret
        refine ⟨a, n, _, ?_, by rw [hl]; exact hrd' _, ⟨_, _, _, hcut, rfl⟩, hkp _⟩
        show _ = Ending.returned (.slice a (r.b.take n).length n)
        rw [hl]; rfl
  · have e0 : (r.e != 0) = true := by simp [he]
    have hq : r.take n = (r, []) := by simp [Rr.take, he]
    have hf : r.fail 10 = r := by simp [Rr.fail, he]
    rw [hq]
    clear he
    by_cases hnm : (m : Int) < (n : Int)
    · go_enter Try.func62, Try.ntmps62
      go_wp2_with (first
        | (go_at_call 63; refine (rfail_any _ _ _ _ _ _ _ _ h).mono ?_; rw [hf]; rintro e w1 ⟨rfl, hR1, hS1⟩; have d1 := hR1.cell1))
      go_ret
      exact ⟨none, 0, _, rfl, Rd.nil_mk, ⟨_, _, _, hR1, rfl⟩, hS1⟩
    · go_enter Try.func62, Try.ntmps62
      go_wp2
      go_ret
      exact ⟨none, 0, _, rfl, Rd.nil_mk, ⟨_, _, _, h, rfl⟩, Stp.refl _ _⟩

set_option maxHeartbeats 400000 in
theorem rerr_nil (w : World) : Calls Try.prog 64 #[.pointer none] w fun e w' => e = .returned (.int .i64 1) ∧ w' = w := by
  go_enter Try.func64, Try.ntmps64
  go_wp2
  go_ret
  exact ⟨rfl, rfl⟩

set_option maxHeartbeats 400000 in
theorem rerr_any (w : World) (base p : Nat) (F : Nat → Prop) (r : Rr) (h : HasR w base p F r) :
    Calls Try.prog 64 #[.pointer (some ⟨p, 0, none⟩)] w fun e w' => e = .returned (.int .i64 r.e) ∧ w' = w := by
  obtain ⟨a, m, c, h, rfl⟩ := h
  have c1 := h.cell1
  go_enter Try.func64, Try.ntmps64
  go_wp2
  go_ret
  exact ⟨rfl, rfl⟩

set_option maxHeartbeats 400000 in
theorem rend_nil (w : World) : Calls Try.prog 49 #[.pointer none] w fun e w' => e = .returned (.int .i64 1) ∧ w' = w := by
  go_enter Try.func49, Try.ntmps49
  go_wp2_with (go_at_call 64; refine (rerr_nil _).mono ?_; rintro e w' ⟨rfl, rfl⟩)
  go_ret
  exact ⟨rfl, rfl⟩

set_option maxHeartbeats 400000 in
theorem rend_any (w : World) (base p : Nat) (F : Nat → Prop) (r : Rr) (h : HasR w base p F r) :
    Calls Try.prog 49 #[.pointer (some ⟨p, 0, none⟩)] w fun e w' => e = .returned (.int .i64 r.fin) ∧ w' = w := by
  have hh := h
  obtain ⟨a, m, c, h, rfl⟩ := h
  have c0 := h.cell0
  have hsz := NB.RdB.size h.rd
  have hbd := Rd.bound h.rd
  by_cases he : r.e = 0
  · have e0 : (r.e != 0) = false := by simp [he]
    by_cases hm : (0 : Int) < (m : Int)
    · have hq : r.fin = 12 := by
        have : r.b ≠ [] := by rintro e; rw [e] at hsz; simp at hsz; omega
        simp [Rr.fin, he, this]
      rw [hq]
      clear he
      go_enter Try.func49, Try.ntmps49
      go_wp2_with (go_at_call 64; refine (rerr_any _ _ _ _ _ hh).mono ?_; rintro e w' ⟨rfl, rfl⟩)
      go_ret
      exact ⟨rfl, rfl⟩
    · have hq : r.fin = 0 := by
        have : r.b = [] := List.eq_nil_of_length_eq_zero (by omega)
        simp [Rr.fin, he, this]
      rw [hq]
      clear he
      go_enter Try.func49, Try.ntmps49
      go_wp2_with (go_at_call 64; refine (rerr_any _ _ _ _ _ hh).mono ?_; rintro e w' ⟨rfl, rfl⟩)
      go_ret
      exact ⟨rfl, rfl⟩
  · have e0 : (r.e != 0) = true := by simp [he]
    have hq : r.fin = r.e := by simp [Rr.fin, he]
    rw [hq]
    clear he
    go_enter Try.func49, Try.ntmps49
    go_wp2_with (go_at_call 64; refine (rerr_any _ _ _ _ _ hh).mono ?_; rintro e w' ⟨rfl, rfl⟩)
    go_ret
    exact ⟨rfl, rfl⟩

/-- A new one. -/
def NewR (w : World) (b : List UInt8) (e : Ending) (w' : World) : Prop := ∃ p F, e = .returned (.pointer (some ⟨p, 0, none⟩)) ∧ HasR w' w.heap.size p F ⟨b, 0⟩ ∧ Below w.heap.size w w'

set_option maxHeartbeats 400000 in
theorem rnew_any (w : World) (a : Option Addr) (n c : Nat) (b : List UInt8) (h : NB.RdB w a n c b) (hl : n ≤ 100000000000) :
    Calls Try.prog 46 #[.slice a n c] w (NewR w b) := by
  go_enter Try.func46, Try.ntmps46
  go_wp2_with (first
    | (go_at_call 44; refine (clone_any _ _ _ _ _ h (by omega)).mono ?_; rintro e w1 ⟨a1, c1, rfl, ho1, hb1⟩))
  go_ret
  obtain ⟨a', c', e', hr, hl', _⟩ := NB.rd_of_own ho1
  cases e'
  refine ⟨w1.heap.size, _, rfl, ⟨a1, b.length, c1, ⟨heap_alloc_new w1 _, Rd.alloc hr _, hb1.size, ?_⟩, rfl⟩, hb1.alloc hb1.size _⟩
  intro k o e
  have := hl' k o e
  exact ⟨this.1, by simp; omega, by omega⟩

/-- Bytes that are read, in new memory. -/
def ReadR (w : World) (base p : Nat) (F : Nat → Prop) (r : Rr × List UInt8) (e : Ending) (w' : World) : Prop :=
  ∃ a c F', e = .returned (.slice a r.2.length c) ∧ NB.OwnB w' w.heap.size 5 (.slice a r.2.length c) r.2 ∧ HasR w' base p F' r.1 ∧ Stp F F' w w' ∧ Off F' w' a r.2.length c r.2

set_option maxHeartbeats 400000 in
theorem rraw_nil (w : World) (v : Value) : Calls Try.prog 65 #[.pointer none, v] w fun e w' => e = .returned (.slice none 0 0) ∧ w' = w := by
  go_enter Try.func65, Try.ntmps65
  go_wp2
  go_ret
  exact ⟨rfl, rfl⟩

set_option maxHeartbeats 1000000 in
theorem rraw_any (w : World) (base p : Nat) (F : Nat → Prop) (r : Rr) (n : Int) (hn : n ≤ 9223372036854775807) (h : HasR w base p F r) (hb : r.b.length ≤ 100000000000) :
    Calls Try.prog 65 #[.pointer (some ⟨p, 0, none⟩), .int .i64 n] w (ReadR w base p F (r.raw n)) := by
  by_cases h0 : n < 0
  · have hq : r.raw n = (r.fail 1, []) := by simp [Rr.raw, h0]
    rw [hq]
    obtain ⟨a, m, c, h, rfl⟩ := h
    go_enter Try.func65, Try.ntmps65
    go_wp2_with (first
      | (go_at_call 63; refine (rfail_any _ _ _ _ _ _ _ _ h).mono ?_; rintro e w1 ⟨rfl, hR1, hS1⟩))
    go_ret
    exact ⟨none, 0, _, rfl, World.ownsRow_nil _ _ _ _, ⟨_, _, _, hR1, rfl⟩, hS1, Rd.nil_mk, (fun k o e => nomatch e)⟩
  · have hq : r.raw n = r.take n.toNat := by simp [Rr.raw, h0]
    rw [hq]
    obtain ⟨m, rfl⟩ := Int.eq_ofNat_of_zero_le (show 0 ≤ n by omega)
    have hl : (r.take m).2.length ≤ r.b.length := by
      unfold Rr.take
      split
      · simp
      · split
        · simp
        · simp; omega
    rw [Int.toNat_natCast]
    go_enter Try.func65, Try.ntmps65
    go_wp2_with (first
      | (go_at_call 62; refine (rtake_any _ _ _ _ _ m (by omega) h).mono ?_; rintro e w1 ⟨a1, c1, F1, rfl, hr1, hR1, hS1⟩)
      | (go_at_call 44; refine (clone_any _ _ _ _ _ hr1 (by omega)).mono ?_; rintro e w2 ⟨a2, c2, rfl, ho2, hb2⟩))
    go_ret
    exact ⟨a2, c2, F1, rfl, NB.own_mono ho2 hS1.size, hR1.below hb2, hS1.below hb2 hS1.size, Off.fresh ho2 (fun k hk => (hR1.foot k hk).2)⟩
end Go.Proofs.Ytjfidhjnbcmhfaa
