/- The reference's ReadBytes, walked. -/
import Derived.Test.YthemdfcokphjeaaNrg
namespace Go.Proofs.Ythemdfcokphjeaa
open Go.RowKit
open Go.NB (Rd digs encU encB Rr val)

theorem raw_keeps (r : Rr) (n : Int) : (r.raw n).1.b.length ≤ r.b.length := by
  unfold Rr.raw
  split
  · unfold Rr.fail
    split <;> simp
  · exact Rr.take_left r _
theorem uint_keeps (r : Rr) : r.uint.1.b.length ≤ r.b.length := by
  have hf : ∀ (r : Rr) x, (r.fail x).b = r.b := by
    intro r x
    unfold Rr.fail
    split <;> rfl
  simp only [Rr.uint]
  split
  · exact Rr.take_left r 1
  · split
    · rw [hf]; exact Rr.take_left r 1
    · split
      · rw [hf]; exact Nat.le_trans (Rr.take_left _ _) (Rr.take_left r 1)
      · exact Nat.le_trans (Rr.take_left _ _) (Rr.take_left r 1)

set_option maxHeartbeats 2000000 in
theorem refRB_any (w : World) (r : Rr) (most : Int) (hm : most ≤ 9223372036854775807) (hl : r.b.length ≤ 100000000) :
    Calls Try.prog 32 #[refR r, .int .i64 most] w (RefRS w (r.bytes most)) := by
  have hq : r.bytes most = if r.uint.1.e ≠ 0 then (r.uint.1, []) else if most < 0 ∨ most < (r.uint.2 : Int) then (r.uint.1.fail 13, []) else r.uint.1.raw r.uint.2 := rfl
  have hul := uint_keeps r
  have c1 := refRead_any ((w.alloc (.cells #[.string ⟨r.b.toArray⟩, .int .i64 r.e] 75)).alloc (.cells #[.string ⟨([] : List UInt8).toArray⟩, .int .i64 0] 75)) r hl
  generalize r.uint = u at *
  by_cases he : u.1.e = 0
  · have he' : (u.1.e != 0) = false := by simp [he]
    rw [if_neg (by simp [he])] at hq
    have HE := Go.Lib.hid he; clear he
    by_cases hb : most < 0 ∨ most < (u.2 : Int)
    · rw [if_pos hb, show u.1.fail 13 = { u.1 with e := 13 } by simp [Rr.fail, HE.out]] at hq
      rw [hq]
      unfold refR at *
      clear hq
      rcases Int.lt_or_le most 0 with h0 | h0
      all_goals
        go_enter Try.func32, Try.ntmps32
        go_wp2_with fail
        refine c1.mono ?_
        rintro e w1 ⟨rfl, hb1⟩
        obtain ⟨d0, d1, d2, d3, f0, f1, f2, f3, hz⟩ := two_cells hb1
        have B1 := (below2 w _ _).trans (hb1.mono (by simp; omega))
        have R1 := ((row2 (two_rows hb1).1).set (.string ⟨u.1.b.toArray⟩) (.int .i64 u.1.e)).set1 (.int .i64 13)
        have e0 := R1.c0
        have e1 := R1.c1
        clear R1
        have hbb : ¬ most < 0 → most < (u.2 : Int) := fun h => hb.resolve_left h
        clear hb
        first
          | have h1 := hbb (by omega)
          | skip
        clear hbb
        go_wp2_with fail
        refine bodyPost_ret (v := .tuple #[.agg #[.string ⟨u.1.b.toArray⟩, .int .i64 13], .string ⟨([] : List UInt8).toArray⟩]) (by simp [results, Try.results32, go_sem, d0, d1, d2, d3, hz]) rfl ⟨rfl, ?_⟩
        repeat (first | exact B1 | refine Below.setCell ?_ (by simp) _)
    · rw [if_neg hb] at hq
      obtain ⟨m, rfl⟩ := Int.eq_ofNat_of_zero_le (show 0 ≤ most by omega)
      have h0 : (u.2 : Int) ≤ (m : Int) := by omega
      have h2 : (u.2 : Int) ≤ 9223372036854775807 := by omega
      have HQ := Go.Lib.hid hq; clear hq hb
      generalize r.bytes (m : Int) = U at *
      have c2 := fun w => refRaw_any w u.1 (u.2 : Int) h2 (by omega)
      rw [← HQ.out] at c2
      unfold refR at *
      have C2 := Go.Lib.hid c2; clear c2
      go_enter Try.func32, Try.ntmps32
      go_wp2_with fail
      refine c1.mono ?_
      rintro e w1 ⟨rfl, hb1⟩
      obtain ⟨d0, d1, d2, d3, f0, f1, f2, f3, hz⟩ := two_cells hb1
      have B1 := (below2 w _ _).trans (hb1.mono (by simp; omega))
      go_wp2_with fail
      have R2 := ((row2 (two_rows hb1).2).other (g' := w.heap.size) (by omega) 0 (.string ⟨u.1.b.toArray⟩)).other (g' := w.heap.size) (by omega) 1 (.int .i64 u.1.e)
      have BW := (B1.setCell (p := ⟨w.heap.size, 0, none⟩) (Nat.le_refl _) (.string ⟨u.1.b.toArray⟩)).setCell (p := ⟨w.heap.size, 1, none⟩) (Nat.le_refl _) (.int .i64 u.1.e)
      refine (C2.out _).mono ?_
      rintro e w2 ⟨rfl, hb2⟩
      have R2' := R2.below hb2
      have B2 := BW.trans (hb2.mono BW.size)
      have e0 := R2'.c0; have e1 := R2'.c1; have g0 := R2'.f0; have g1 := R2'.f1
      have hz2 := R2'.lt
      clear R2' R2 BW hb2 hb1 d0 d1 d2 d3 f0 f1 f2 f3
      go_wp2_with fail
      refine bodyPost_ret (v := .tuple #[.agg #[.string ⟨U.1.b.toArray⟩, .int .i64 U.1.e], .string ⟨U.2.toArray⟩]) (by simp [results, Try.results32, go_sem, e0, e1, hz2]) rfl ⟨rfl, ?_⟩
      repeat (first | exact B2 | refine Below.setCell ?_ (by simp) _)
  · have he' : (u.1.e != 0) = true := by simp [he]
    rw [if_pos he] at hq
    rw [hq]
    clear he hq
    unfold refR at *
    go_enter Try.func32, Try.ntmps32
    go_wp2_with fail
    refine c1.mono ?_
    rintro e w1 ⟨rfl, hb1⟩
    obtain ⟨d0, d1, d2, d3, f0, f1, f2, f3, hz⟩ := two_cells hb1
    have B1 := (below2 w _ _).trans (hb1.mono (by simp; omega))
    go_wp2_with fail
    refine bodyPost_ret (v := .tuple #[.agg #[.string ⟨u.1.b.toArray⟩, .int .i64 u.1.e], .string ⟨([] : List UInt8).toArray⟩]) (by simp [results, Try.results32, go_sem, d0, d1, d2, d3, hz]) rfl ⟨rfl, ?_⟩
    repeat (first | exact B1 | refine Below.setCell ?_ (by simp) _)
end Go.Proofs.Ythemdfcokphjeaa
