/- The statements on dedup: 'awake', walked. -/
import Derived.Test.YthemdfcokphjeaaDdb
import Derived.Test.YthemdfcokphjeaaDdc
import Derived.Test.YthemdfcokphjeaaAny
import Derived.Test.YthemdfcokphjeaaOpen
namespace Go.Proofs.Ythemdfcokphjeaa
open Go.RowKit
open Go.NB (Rd Kp Stp Off Dis Rr footR val encU encB digs Ent dknown dat dlast B64 oneB)

def awD : List UInt8 := [1, 1, 1, 2, 1, 2, 97, 98]
theorem awd_put : putM (1, 2, [97, 98]) = (awD, 0) := by
  have h1 : digs 1 = [1] := NB.digs_val [1] (by simp)
  have h2 : digs 2 = [2] := NB.digs_val [2] (by simp)
  have e1 : encU 1 = [1, 1] := by rw [encU, h1]; rfl
  have e2 : encU 2 = [1, 2] := by rw [encU, h2]; rfl
  simp only [putM, encB, e1, e2, List.length_cons, List.length_nil]
  rfl
theorem awd_get : getM awD = ((1, 2, [97, 98]), 0) := by rfl
theorem awd_cells {w : World} {a : Option Addr} {c : Nat} (h : NB.RdB w a 8 c awD) :
    ∃ b o, w.cell? ⟨b, o + 1, none⟩ = some (.int .u8 1) ∧ w.cell? ⟨b, o + 3, none⟩ = some (.int .u8 2) ∧ w.cell? ⟨b, o + 5, none⟩ = some (.int .u8 2) ∧ w.cell? ⟨b, o + 6, none⟩ = some (.int .u8 97) ∧ a = some ⟨b, o, none⟩ := by
  obtain ⟨b, o, e, hc⟩ := NB.RdB.at h (by omega)
  exact ⟨b, o, hc 1 (by omega), hc 3 (by omega), hc 5 (by omega), hc 6 (by omega), e⟩

set_option maxHeartbeats 1000000 in
theorem awake_any (w : World) : Calls Try.prog 8 #[] w fun e w' => e = .returned (.bool true) ∧ Below w.heap.size w w' := by
  have kc := fun (w : World) (C : Array Value) (n c : Nat) => Lib.run_convert_bytes_const (P := Try.prog) w 23 5 C n c Try.underlying23 Try.underlying5
  have k2 : (2 : Nat) ≤ maxLen := by unfold maxLen; omega
  have hw7 : (Lit.int .i64 7).wf = true := by decide
  have hw8 : (Lit.int .i64 8).wf = true := by decide
  go_enter Try.func8, Try.ntmps8
  go_wp2_with fail
  refine (dput_any _ 1 2 _ 2 2 [97, 98] (by unfold B64; omega) (by unfold B64; omega) (NB.rdB_lit (n := 2) [97, 98] rfl rfl k2 rfl)).mono ?_
  rw [awd_put]
  rintro e w1 ⟨a1, c1, rfl, ho1, hb1⟩
  have B1 := NB.bel (oneB w _) hb1 (oneB w _).size
  have r1 := (Off.fresh (F := fun _ => False) ho1 (fun _ h => h.elim)).rd
  rw [show (awD, (0 : Int)).1.length = 8 from rfl] at r1 ⊢
  clear hb1 ho1
  go_wp2_with fail
  refine (dget_any _ _ _ _ _ r1 (by omega)).mono ?_
  rw [awd_get]
  rintro e w2 ⟨a2, n2, c2, rfl, r2, hb2⟩
  have r12 := r1.below hb2
  have B2 := NB.bel B1 hb2 B1.size
  obtain rfl : 2 = n2 := NB.RdB.size r2
  clear r1 hb2
  have row3 := NB.rw_new w2 [.int .u64 1, .int .u64 2, .slice a2 2 c2] 25 rfl
  have ob := oneB w2 (.cells #[.int .u64 1, .int .u64 2, .slice a2 2 c2] 25)
  have r13 := r12.below ob
  have r23 := r2.below ob
  have B3 := NB.bel B2 ob B2.size
  clear r12 r2 B2 ob B1
  simp only [List.toArray] at row3
  go_wp2_with fail
  generalize w2.alloc (.cells #[.int .u64 1, .int .u64 2, .slice a2 2 c2] 25) = w3 at *
  refine (tnew_any _).mono ?_
  rintro e w4 ⟨p, F, rfl, hT4, hb4⟩
  have row4 := row3.below hb4
  have nr4 : ¬ F w2.heap.size := fun h => by have := (hT4.foot _ h).1; have := row3.lt; omega
  have r14 := Off.old r13 hb4 (fun k hk => (hT4.foot k hk).1)
  have r24 := Off.old r23 hb4 (fun k hk => (hT4.foot k hk).1)
  have B4 := NB.bel B3 hb4 B3.size
  have hsz := B3.size
  clear row3 r13 r23 B3 hb4
  generalize w3.heap.size = base at *
  go_wp2_with fail
  refine (note_any _ _ _ _ _ 1 2 7 hT4 (by unfold B64; omega) (by unfold B64; omega) hw7 (by simp)).mono ?_
  rw [show dnote [] 1 2 7 = ([(1, 2, 7)], 0) from rfl]
  rintro e w5 ⟨rfl, hT5, hS5⟩
  have row5 := row4.keep hS5.kp nr4
  have r15 := r14.step hS5
  have r25 := r24.step hS5
  have B5 := NB.bel B4 (hT4.low hS5) hsz
  obtain ⟨c50, c51, c52, f50, f51, f52⟩ := NB.rw3 row5
  clear row4 r14 r24 B4 hT4 hS5
  go_wp2_with fail
  refine (find_any _ _ _ _ _ 1 2 hT5 (by unfold B64; omega) (by unfold B64; omega)).mono ?_
  rw [show dat [(1, 2, 7)] 1 2 = 7 from rfl, show dknown [(1, 2, 7)] 1 2 = true from rfl]
  rintro e w' ⟨rfl, e2⟩
  subst w'
  obtain ⟨b8, o8, q1, q3, q5, q6, rfl⟩ := awd_cells r15.rd
  go_wp2_with (refine NB.wpList_conv_str rfl 23 9 (.tmp 66) rfl Try.underlying23 Try.underlying5 Try.underlying9 a2 2 c2 [97, 98] rfl r25.rd ?_)
  refine (note_any _ _ _ _ _ 1 2 8 hT5 (by unfold B64; omega) (by unfold B64; omega) hw8 (by simp)).mono ?_
  rw [show dnote [(1, 2, 7)] 1 2 8 = ([(1, 2, 7)], 31) from rfl]
  rintro e w6 ⟨rfl, hT6, hS6⟩
  go_wp2_with fail
  go_ret
  exact ⟨rfl, NB.bel B5 (hT5.low hS6) hsz⟩
end Go.Proofs.Ythemdfcokphjeaa
