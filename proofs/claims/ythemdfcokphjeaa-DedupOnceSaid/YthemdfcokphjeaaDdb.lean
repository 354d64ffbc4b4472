/- Dedup's table: Last, walked. -/
import Derived.Test.YthemdfcokphjeaaDda
namespace Go.Proofs.Ythemdfcokphjeaa
open Go.RowKit
open Go.NB (Rd Kp Stp Off Dis Ent dknown dat dlast B64 MapIs RangeIs KeyW kvw Lst)

/-- Lst, of what has come. -/
structure Seen (l : List Ent) (c : Nat) (left : Nat → Nat → Bool) (n : Nat) (b : Bool) : Prop where
  up : ∀ e ∈ l, e.1 = c → left e.1 e.2.1 = false → e.2.1 ≤ n ∧ b = true
  no : b = false → n = 0
  is : b = true → ∃ e ∈ l, e.1 = c ∧ e.2.1 = n
theorem seen_start (l : List Ent) (c : Nat) : Seen l c (dknown l) 0 false :=
  ⟨(fun e he _ h => by rw [show dknown l e.1 e.2.1 = true from List.any_eq_true.2 ⟨e, he, by simp [NB.dhit]⟩] at h; cases h), (fun _ => rfl), (fun h => by cases h)⟩
theorem seen_end {l : List Ent} {c n : Nat} {b : Bool} {left : Nat → Nat → Bool} (h : Seen l c left n b) (hl : ∀ c s, B64 c → B64 s → left c s = false) (hb : ∀ e ∈ l, B64 e.1 ∧ B64 e.2.1) : dlast l c = (n, b) :=
  (NB.dlast_is l c).eq ⟨fun e he hc => h.up e he hc (hl _ _ (hb e he).1 (hb e he).2), h.no, h.is⟩
theorem seen_other {l : List Ent} {c n : Nat} {b : Bool} {left : Nat → Nat → Bool} (h : Seen l c left n b) {k s : Nat} (hk : k ≠ c) : Seen l c (NB.strike left k s) n b :=
  ⟨fun e he hc hl => h.up e he hc (by
    rcases Bool.and_eq_false_iff.1 hl with h1 | h1
    · exact h1
    · have h2 : k = e.1 ∧ s = e.2.1 := by simpa using h1
      exact absurd (h2.1.trans hc) hk), h.no, h.is⟩
theorem seen_hit {l : List Ent} {c n : Nat} {b : Bool} {left : Nat → Nat → Bool} (h : Seen l c left n b) {k s : Nat} (hk : k = c) (hin : dknown l k s = true) : Seen l c (NB.strike left k s) (max n s) true := by
  refine ⟨fun e he hc hl => ⟨?_, rfl⟩, (fun h => by cases h), fun _ => ?_⟩
  · rcases Bool.and_eq_false_iff.1 hl with h1 | h1
    · exact Nat.le_trans (h.up e he hc h1).1 (Nat.le_max_left _ _)
    · have h2 : k = e.1 ∧ s = e.2.1 := by simpa using h1
      rw [← h2.2]; exact Nat.le_max_right _ _
  · obtain ⟨x, hx, hh⟩ := List.any_eq_true.1 hin
    obtain ⟨h1, h2⟩ := (NB.dhit_iff _ _ _).1 hh
    rcases Nat.le_total n s with hm | hm
    · exact ⟨x, hx, h1.trans hk, by rw [Nat.max_eq_right hm]; exact h2⟩
    · cases hb : b with
      | true =>
        obtain ⟨y, hy, hc, hv⟩ := h.is hb
        exact ⟨y, hy, hc, by rw [Nat.max_eq_left hm]; exact hv⟩
      | false =>
        have := h.no hb
        exact ⟨x, hx, h1.trans hk, by rw [h2]; omega⟩

set_option maxHeartbeats 400000 in
theorem last_nil (w : World) (x : Value) : Calls Try.prog 17 #[.pointer none, x] w fun e w' => e = .returned (.tuple #[.int .u64 0, .bool false]) ∧ w' = w := by
  go_enter Try.func17, Try.ntmps17
  go_wp2
  go_ret2
  exact ⟨rfl, rfl⟩

def LastT (w : World) (r : Nat × Bool) (e : Ending) (w' : World) : Prop := e = .returned (.tuple #[.int .u64 (r.1 : Int), .bool r.2]) ∧ Below w.heap.size w w'

set_option maxHeartbeats 1000000 in
theorem last_any (w : World) (base p : Nat) (F : Nat → Prop) (l : List Ent) (c : Nat) (h : HasT w base p F l) (hc : B64 c) :
    Calls Try.prog 17 #[.pointer (some ⟨p, 0, none⟩), .int .u64 (c : Int)] w (LastT w (dlast l c)) := by
  obtain ⟨b, h, rfl⟩ := h
  have c0 := h.cell
  have hbl : ∀ e ∈ l, B64 e.1 ∧ B64 e.2.1 := by obtain ⟨D, _, _, _, hb⟩ := h.mp; exact hb
  have hbt := h.mp.lt
  obtain ⟨R, hR⟩ : ∃ R, R = dlast l c := ⟨_, rfl⟩
  rw [← hR]
  have HR := Go.Lib.hid hR; clear hR
  have HBL := Go.Lib.hid hbl; clear hbl
  go_enter Try.func17, Try.ntmps17
  go_wp2_with (at_range; refine NB.wpList_range_is kw rfl _ 81 rfl Try.underlying81 rfl h.mp ?_; intro w0 hrg0 hg0 hs0)
  try go_frame
  have hb0 : Below w.heap.size w w0 := ⟨hg0.os, hg0.tape, hg0.output, hg0.size, fun k hk => hg0.block k hk (by simp)⟩
  clear c0 h hg0
  have hst := seen_start l c
  go_loopw [6, 7] (fun n has wr => ∃ (left : Nat → Nat → Bool) (cnt N : Nat) (B : Bool), n = .int .u64 (N : Int) ∧ has = .bool B ∧ RangeIs Try.prog 85 3 wr b w.heap.size l left cnt ∧ Seen l c left N B ∧ Below w.heap.size w wr ∧ B64 N) (fun _ _ wr => wr.rangeLeft b w.heap.size)
  case atStart => exact ⟨_, _, 0, false, rfl, rfl, hrg0, hst, hb0, by unfold B64; omega⟩
  case round =>
    clear hrg0 hst hb0 hs0
    obtain ⟨left, cnt, N, B, rfl, rfl, hrg, hse, hbe, hN⟩ := hrel
    go_wp2_with (at_next; refine NB.wpList_next_is kw rfl _ rfl rfl hrg ?_ ?_)
    · intro hl
      have hfin := HR.out.trans (seen_end hse hl HBL.out)
      have HF := Go.Lib.hid hfin; clear hfin hse hrg
      go_wp2
      go_ret2
      rw [HF.out]
      exact ⟨rfl, hbe⟩
    · intro k s at_ w1 cnt1 hk hs hin hrg1 hlt hg1 hsz1 hen
      have hb1 : Below w.heap.size w w1 := hbe.grown hg1 hbe.size (fun k e => by cases e; exact Nat.le_refl _)
      have hSH := fun hkc : k = c => seen_hit hse (s := s) hkc hin
      have hSO := fun hkc : k ≠ c => seen_other hse (s := s) hkc
      generalize NB.strike left k s = left2 at *
      have hrg2 := hrg1.alloc (.cells #[.int .u64 (k : Int), .int .u64 (s : Int)] 85)
      have hb2 := hb1.alloc hb1.size (.cells #[.int .u64 (k : Int), .int .u64 (s : Int)] 85)
      have hm1 := hrg2.left_eq
      have hm0 := hrg.left_eq
      have HM1 := Go.Lib.hid hm1; have HM0 := Go.Lib.hid hm0; have HSH := Go.Lib.hid hSH; have HSO := Go.Lib.hid hSO
      clear hm1 hm0 hse hin hrg hrg1 hsz1 hg1 hSH hSO
      by_cases hkc : k = c
      · have e1 : ((k : Int) == (c : Int)) = true := by simp [hkc]
        have HKC := Go.Lib.hid hkc; clear hkc
        go_wp2
        go_roundw
        case rel => exact ⟨_, _, max N s, true, by first | rfl | (congr 1; omega), rfl, hrg2, HSH.out HKC.out, hb2, by unfold B64 at *; omega⟩
        case measure => rw [HM1.out, HM0.out]; exact hlt
      · have e1 : ((k : Int) == (c : Int)) = false := by simp [hkc]; omega
        have HKC := Go.Lib.hid hkc; clear hkc
        go_wp2
        go_roundw
        case rel => exact ⟨_, _, N, B, rfl, rfl, hrg2, HSO.out HKC.out, hb2, hN⟩
        case measure => rw [HM1.out, HM0.out]; exact hlt
end Go.Proofs.Ythemdfcokphjeaa
