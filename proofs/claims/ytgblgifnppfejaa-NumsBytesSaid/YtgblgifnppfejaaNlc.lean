/- The walk for the statement NumsBytesSaid: for every input the law NumsBytes returns true and leaves its arguments as they were. No condition. -/
import Derived.Test.YtgblgifnppfejaaNla
import Derived.Test.YtgblgifnppfejaaNump
namespace Go.Proofs.Ytgblgifnppfejaa
open Go.ChangeShapes Go.WideShapes Go.ChangeAt Go.RowKit
open Go.ChangeMaps (open_string shut_string)
open Go.NB (Rd Kp Stp Off Dis Rr footR val encU encB digs)

theorem raw_all (l : List UInt8) (m : Nat) (h : l.length = m) : Rr.raw ⟨l, 0⟩ (m : Int) = (⟨[], 0⟩, l) := by
  subst h
  have := Rr.raw_enc l []
  rwa [List.append_nil] at this

set_option maxHeartbeats 2000000 in
theorem law_bytes (w : World) (a : Option Addr) (n c : Nat) (b : List UInt8) (x : Int) (a' : Option Addr) (n' c' : Nat) (t : List UInt8) (h : NB.RdB w a n c b) (hx : (Lit.int .u16 x).wf = true) (h' : NB.RdB w a' n' c' t) :
    Calls Try.prog 7 #[.slice a n c, .int .u16 x, .slice a' n' c'] w fun e w' => e = .returned (.bool true) ∧ Below w.heap.size w w' := by
  have hbd := Rd.bound h
  have hbd' := Rd.bound h'
  have hsz := NB.RdB.size h
  have hsz' := NB.RdB.size h'
  have bx := bounds_u16 hx
  by_cases hn : n ≤ 300
  · have hnz : (n : Int) ≤ 300 := by omega
    by_cases hn' : n' ≤ 50
    · have hnz' : (n' : Int) ≤ 50 := by omega
      have hel := NB.encU_len (x := b.length) (by omega)
      have hsl : (encB b).length ≤ 9 + n := by rw [encB, List.length_append]; omega
      have hbl : (encB b ++ t).length ≤ 100000000000 := by rw [List.length_append]; omega
      by_cases hm : x < (n : Int)
      · have hq := Rr.bytes_big (b := b) (by omega) t (most := x) (by omega)
        obtain ⟨Z, hZ⟩ : ∃ Z, encB b ++ t = Z := ⟨_, rfl⟩
        rw [hZ] at hq hbl
        have HQ := Go.Lib.hid hq; have HZ := Go.Lib.hid hZ; clear hq hZ
        go_enter Try.func7, Try.ntmps7
        go_wp2_with (first
          | (go_at_call 9; refine (awake_any _).mono ?_; rintro e w1 ⟨rfl, hb1⟩)
          | (go_at_call 10; refine (wnew_any _).mono ?_; rintro e w2 ⟨p, F2, rfl, hW2, hb2⟩; have B2 := NB.bel hb1 hb2 hb1.size)
          | (go_at_call 13; refine (wbytes_any _ _ _ _ _ _ _ _ _ hW2 (Off.old (h.below hb1) hb2 (fun k hk => (hW2.foot k hk).1)) (by simp; omega)).mono ?_; rw [List.nil_append]; rintro e w3 ⟨rfl, F3, hW3, hS3⟩; have B3 := NB.bel B2 (hW2.low hS3) hb1.size)
          | (go_at_call 14; refine (wraw_any _ _ _ _ _ _ _ _ _ hW3 (h'.below B3) (by omega)).mono ?_; rw [HZ.out]; rintro e w4 ⟨rfl, F4, hW4, hS4⟩; have B4 := NB.bel B3 (hW3.low hS4) hb1.size)
          | (go_at_call 15; refine (wout_any _ _ _ _ _ hW4 hbl).mono ?_; rintro e w5 ⟨a5, c5, rfl, ho5, hb5⟩; have B5 := NB.bel B4 hb5 B4.size; have r5 := (Off.fresh (F := fun _ => False) ho5 (fun _ h => h.elim)).rd)
          | (go_at_call 17; refine (rnew_any _ _ _ _ _ r5 hbl).mono ?_; rintro e w6 ⟨q, F6, rfl, hR6, hb6⟩; have B6 := NB.bel B5 hb6 B5.size)
          | (go_at_call 20; refine (rbytes_any _ _ _ _ _ x (by omega) hR6 hbl).mono ?_; rw [HQ.out]; rintro e w7 ⟨a7, c7, F7, rfl, ho7, hR7, hS7, hf7⟩; have B7 := NB.bel B6 (hR6.low hS7) B5.size)
          | (go_at_call 24; refine (rerr_any _ _ _ _ _ hR7).mono ?_; rintro e w' ⟨rfl, e2⟩; subst w'))
        go_ret
        exact ⟨rfl, B7⟩
      · have hq := Rr.bytes_enc (b := b) (by omega) t (most := x) (by omega)
        obtain ⟨Z, hZ⟩ : ∃ Z, encB b ++ t = Z := ⟨_, rfl⟩
        rw [hZ] at hq hbl
        have HQ := Go.Lib.hid hq; have HZ := Go.Lib.hid hZ; clear hq hZ
        have hr := raw_all t n' hsz'
        have HR := Go.Lib.hid hr; clear hr
        go_enter Try.func7, Try.ntmps7
        go_wp2_with (first
          | (go_at_call 9; refine (awake_any _).mono ?_; rintro e w1 ⟨rfl, hb1⟩)
          | (go_at_call 10; refine (wnew_any _).mono ?_; rintro e w2 ⟨p, F2, rfl, hW2, hb2⟩; have B2 := NB.bel hb1 hb2 hb1.size)
          | (go_at_call 13; refine (wbytes_any _ _ _ _ _ _ _ _ _ hW2 (Off.old (h.below hb1) hb2 (fun k hk => (hW2.foot k hk).1)) (by simp; omega)).mono ?_; rw [List.nil_append]; rintro e w3 ⟨rfl, F3, hW3, hS3⟩; have B3 := NB.bel B2 (hW2.low hS3) hb1.size)
          | (go_at_call 14; refine (wraw_any _ _ _ _ _ _ _ _ _ hW3 (h'.below B3) (by omega)).mono ?_; rw [HZ.out]; rintro e w4 ⟨rfl, F4, hW4, hS4⟩; have B4 := NB.bel B3 (hW3.low hS4) hb1.size)
          | (go_at_call 15; refine (wout_any _ _ _ _ _ hW4 hbl).mono ?_; rintro e w5 ⟨a5, c5, rfl, ho5, hb5⟩; have B5 := NB.bel B4 hb5 B4.size; have r5 := (Off.fresh (F := fun _ => False) ho5 (fun _ h => h.elim)).rd)
          | (go_at_call 17; refine (rnew_any _ _ _ _ _ r5 hbl).mono ?_; rintro e w6 ⟨q, F6, rfl, hR6, hb6⟩; have B6 := NB.bel B5 hb6 B5.size)
          | (go_at_call 20; refine (rbytes_any _ _ _ _ _ x (by omega) hR6 hbl).mono ?_; rw [HQ.out]; rintro e w7 ⟨a7, c7, F7, rfl, ho7, hR7, hS7, hf7⟩; have B7 := NB.bel B6 (hR6.low hS7) B5.size; rw [hsz] at hf7 ⊢)
          | (go_at_call 22; refine (rraw_any _ _ _ _ _ n' (by omega) hR7 (show t.length ≤ _ by omega)).mono ?_; rw [HR.out]; rintro e w8 ⟨a8, c8, F8, rfl, ho8, hR8, hS8, hf8⟩; have B8 := NB.bel B7 (hR7.low hS8) B5.size; have of7 := hf7.step hS8; rw [hsz'] at hf8 ⊢)
          | (refine NB.wpList_conv_str rfl 23 9 (.tmp 54) rfl Try.underlying23 Try.underlying5 Try.underlying9 a7 n c7 b rfl of7.rd ?_)
          | (refine NB.wpList_conv_str rfl 23 9 (.tmp 56) rfl Try.underlying23 Try.underlying5 Try.underlying9 a n c b rfl (h.below B8) ?_)
          | (refine NB.wpList_conv_str rfl 23 9 (.tmp 60) rfl Try.underlying23 Try.underlying5 Try.underlying9 a8 n' c8 t rfl hf8.rd ?_)
          | (refine NB.wpList_conv_str rfl 23 9 (.tmp 62) rfl Try.underlying23 Try.underlying5 Try.underlying9 a' n' c' t rfl (h'.below B8) ?_)
          | (go_at_call 25; refine (rend_any _ _ _ _ _ hR8).mono ?_; rw [show Rr.fin ⟨[], 0⟩ = 0 from rfl]; rintro e w' ⟨rfl, e2⟩; subst w'))
        go_ret
        exact ⟨rfl, B8⟩
    · have hnz' : ¬ (n' : Int) ≤ 50 := by omega
      go_enter Try.func7, Try.ntmps7
      go_wp2_with (first
          | (go_at_call 9; refine (awake_any _).mono ?_; rintro e w1 ⟨rfl, hb1⟩))
      go_ret
      exact ⟨rfl, hb1⟩
  · have hnz : ¬ (n : Int) ≤ 300 := by omega
    go_enter Try.func7, Try.ntmps7
    go_wp2_with (first
        | (go_at_call 9; refine (awake_any _).mono ?_; rintro e w1 ⟨rfl, hb1⟩))
    go_ret
    exact ⟨rfl, hb1⟩
end Go.Proofs.Ytgblgifnppfejaa
