/- The reference's Read, walked. -/
import Derived.Test.YtnkmlopgfgdajaaNrf
namespace Go.Proofs.Ytnkmlopgfgdajaa
open Go.RowKit
open Go.NB (Rd digs encU encB Rr val)

theorem val_take (l : List UInt8) (k : Nat) (h : k < l.length) : val (l.take (k + 1)) = val (l.take k) * 256 + (l.getD k 0).toNat := by
  rw [NB.take_getD l k h (d := 0), NB.val_snoc]

set_option maxHeartbeats 2000000 in
theorem refRead_go (w : World) (y : UInt8) (b : List UInt8) (h8 : ¬ 8 < y.toNat) (hl : (y :: b).length ≤ 100000000) :
    Calls Try.prog 28 #[refR ⟨y :: b, 0⟩] w (RefRU w (Rr.uint ⟨y :: b, 0⟩)) := by
  have hyy : ∀ h, (ByteArray.mk #[y])[0]'h = y := fun _ => rfl
  have hr : Rr.raw ⟨y :: b, 0⟩ 1 = (⟨b, 0⟩, [y]) := by simp [Rr.raw, Rr.take]
  have c1 := refRaw_any ((w.alloc (.cells #[.string ⟨(y :: b : List UInt8).toArray⟩, .int .i64 0] 69)).alloc (.cells #[.string ⟨([] : List UInt8).toArray⟩, .int .i64 0] 69)) ⟨y :: b, 0⟩ 1 (by omega) hl
  rw [hr] at c1
  have hu := Rr.uint_step y b
  rw [if_neg h8] at hu
  have HU := Go.Lib.hid hu; clear hu
  generalize Rr.uint ⟨y :: b, 0⟩ = U at *
  have h8' : ¬ (8 : Int) < (y.toNat : Int) := by omega
  unfold refR at *
  go_enter Try.func28, Try.ntmps28
  go_wp2_with fail
  refine c1.mono ?_
  rintro e w1 ⟨rfl, hb1⟩
  obtain ⟨d0, d1, d2, d3, f0, f1, f2, f3, hz⟩ := two_cells hb1
  have B1 := (below2 w _ _).trans (hb1.mono (by simp; omega))
  obtain ⟨hr1, hr2⟩ := two_rows hb1
  have R1 := (row2 hr1).set (.string ⟨b.toArray⟩) (.int .i64 0)
  have R2 := ((row2 hr2).other (g' := w.heap.size) (by omega) 0 (.string ⟨b.toArray⟩)).other (g' := w.heap.size) (by omega) 1 (.int .i64 0)
  have BV : Below w.heap.size w ((w1.setCell ⟨w.heap.size, 0, none⟩ (.string ⟨b.toArray⟩)).setCell ⟨w.heap.size, 1, none⟩ (.int .i64 0)) := (B1.setCell (by simp) _).setCell (by simp) _
  go_wp2_with fail
  refine NB.wp_region_t [8] (by kernel_rfl) ?_
  generalize ((w1.setCell ⟨w.heap.size, 0, none⟩ (.string ⟨b.toArray⟩)).setCell ⟨w.heap.size, 1, none⟩ (.int .i64 0)) = v0 at *
  have R1v := R1.below (Below.refl _ v0).drew
  have R2v := R2.below (Below.refl _ v0).drew
  have Bv := BV.drew
  clear R1 R2 BV hb1 hr1 hr2 d0 d1 d2 d3 f0 f1 f2 f3 hz B1 c1
  generalize v0.drew = v at *
  have hraw : Rr.raw ⟨b, 0⟩ (y.toNat : Int) = Rr.take ⟨b, 0⟩ y.toNat := by simp only [Rr.raw]; rw [if_neg (by omega), Int.toNat_natCast]
  have hlb : b.length ≤ 100000000 := by simp at hl; omega
  have c2 := refRaw_any v ⟨b, 0⟩ (y.toNat : Int) (by have := y.toNat_lt; omega) hlb
  rw [hraw] at c2
  unfold refR at c2
  have hsl := NB.Rr.take_len ⟨b, 0⟩ y.toNat
  have hcs : (Rr.take ⟨b, 0⟩ y.toNat).1.e = 0 ∨ ((Rr.take ⟨b, 0⟩ y.toNat).1.e = 10 ∧ (Rr.take ⟨b, 0⟩ y.toNat).2 = []) := by
    unfold Rr.take
    simp only [ne_eq, not_true_eq_false, if_false]
    split
    · exact .inr ⟨rfl, rfl⟩
    · exact .inl rfl
  generalize hs : Rr.take ⟨b, 0⟩ y.toNat = s at *
  have hwy : IntKind.i64.wrap (y.toNat : Int) = (y.toNat : Int) := IntWalk.i64_in _ (by have := y.toNat_lt; omega)
  have HR := Go.Lib.hid hr; clear hr hraw hs hlb hl
  refine NB.t_r 0 [4, 5, 6, 7, 8, 9] rfl (by kernel_rfl) (by kernel_rfl) rfl _ (fun w' hw' => NB.run_op_load_agg rfl rfl Try.underlying69 rfl 69 #[.string ⟨b.toArray⟩, .int .i64 0] (0, 0) R1v.row (m := 2) (by kernel_rfl) (by simp) _ rfl hw') (fun K hK => ?_); go_simp; refine hK _ ?_; clear hK K
  refine NB.t_p 1 rfl (by kernel_rfl) (fun K hK => ?_); go_simp; refine hK _ ?_; clear hK K
  refine NB.t_p 2 rfl (by kernel_rfl) (fun K hK => ?_); go_simp; refine hK _ ?_; clear hK K
  refine NB.t_p 3 rfl (by kernel_rfl) (fun K hK => ?_); go_simp; refine hK _ ?_; clear hK K
  refine NB.t_e 4 rfl (by kernel_rfl) (by kernel_rfl) (fun K hK => ?_); unfold NB.tmoves; go_simp; refine c2.mono ?_; rintro e w2 ⟨rfl, hb2⟩; refine ⟨_, rfl, hb2, hK _ _ ?_⟩; clear hK K
  have R1w := R1v.below hb2
  have R2w := R2v.below hb2
  have hne : w.heap.size + 1 ≠ w.heap.size := by omega
  have R1' := R1w.set (.string ⟨s.1.b.toArray⟩) (.int .i64 s.1.e)
  have R2' := (R2w.other (g' := w.heap.size) (by omega) 0 (.string ⟨s.1.b.toArray⟩)).other (g' := w.heap.size) (by omega) 1 (.int .i64 s.1.e)
  have B2 := Bv.trans (hb2.mono Bv.size)
  have B3 := (B2.setCell (p := ⟨w.heap.size, 0, none⟩) (Nat.le_refl _) (.string ⟨s.1.b.toArray⟩)).setCell (p := ⟨w.heap.size, 1, none⟩) (Nat.le_refl _) (.int .i64 s.1.e)
  refine NB.t_p 5 rfl (by kernel_rfl) (fun K hK => ?_); go_simp; refine hK _ ?_; clear hK K
  refine NB.t_p 6 rfl (by kernel_rfl) (fun K hK => ?_); go_simp; refine hK _ ?_; clear hK K
  refine NB.t_p 7 rfl (by kernel_rfl) (fun K hK => ?_); go_simp; refine hK _ ?_; clear hK K
  have d0 := R1w.c0; have d1 := R1w.c1; have f0 := R1w.f0; have f1 := R1w.f1
  refine NB.t_w 8 rfl (by kernel_rfl) (by kernel_rfl) rfl (fun Q' hK => ?_)
  go_wp2
  clear d0 d1 f0 f1
  generalize ((w2.setCell ⟨w.heap.size, 0, none⟩ (.string ⟨s.1.b.toArray⟩)).setCell ⟨w.heap.size, 1, none⟩ (.int .i64 s.1.e)) = v3 at *
  refine NB.t_p 9 rfl (by kernel_rfl) (fun K hK => ?_); go_simp; refine hK _ ?_; clear hK K
  refine NB.t_end (by kernel_rfl) ?_
  clear R1v R2v Bv hb2 R1w R2w B2 c2 hwy hyy
  have e0 := R1'.c0; have e1 := R1'.c1; have g0 := R1'.f0; have g1 := R1'.f1
  have e2 := R2'.c0; have e3 := R2'.c1; have g2 := R2'.f0; have g3 := R2'.f1
  have hz := R2'.lt
  rcases hcs with he | ⟨he, hnil⟩
  · have he' : (s.1.e != 0) = false := by simp [he]
    have HE := Go.Lib.hid he; clear he
    go_wp2_with fail
    have hvl : ∀ k, k ≤ s.2.length → val (s.2.take k) < 256 ^ k := fun k hk => by
      have := NB.val_lt (s.2.take k)
      rwa [List.length_take, Nat.min_eq_left hk] at this
    have hl8 : s.2.length ≤ 8 := by omega
    go_loop [6, 7] (fun x i => ∃ k : Nat, k ≤ s.2.length ∧ x = .int .u64 (val (s.2.take k) : Int) ∧ i = .int .i64 k) (fun _ i => s.2.length - (intOf i).toNat)
    case atStart => exact ⟨0, by omega, rfl, rfl⟩
    case round =>
      obtain ⟨k, hk, rfl, rfl⟩ := hrel
      have hv := hvl k hk
      have HVL := Go.Lib.hid hvl; clear hvl
      by_cases hlt : k < s.2.length
      · have hvs := val_take s.2 k hlt
        have hX7 : val (s.2.take k) < 256 ^ 7 := Nat.lt_of_lt_of_le hv (Nat.pow_le_pow_right (by omega) (by omega))
        clear hv
        have hix : ∀ h, (ByteArray.mk s.2.toArray)[k]'h = s.2.getD k 0 := fun h => by simp [List.getD, hlt, ByteArray.getElem_eq_getElem_data]
        generalize s.2.getD k 0 = z at *
        generalize val (s.2.take k) = X at *
        have hX8 : X < 72057594037927936 := by simpa using hX7
        have hz := z.toNat_lt
        have hm1 : IntKind.u64.wrap ((X : Int) * 256) = (X : Int) * 256 := by rw [IntKind.wrap_u64]; omega
        have hm2 : IntKind.u64.wrap (z.toNat : Int) = (z.toNat : Int) := by rw [IntKind.wrap_u64]; omega
        have hm3 : IntKind.u64.wrap ((X : Int) * 256 + (z.toNat : Int)) = ((X * 256 + z.toNat : Nat) : Int) := by rw [IntKind.wrap_u64]; omega
        have HVS := Go.Lib.hid hvs
        clear hX7 hX8 hvs hz
        have hki : (k : Int) < (s.2.length : Int) := by omega
        go_wp2_with fail
        go_round
        case rel => exact ⟨k + 1, by omega, by rw [HVS.out]; exact congrArg (Value.int .u64) (by omega), by go_num⟩
        case measure => simp [intOf]; omega
      · obtain rfl : k = s.2.length := by omega
        rw [List.take_length]
        clear hv HVL hsl hl8 hlt
        generalize s.2 = l at *
        generalize s.1 = q at *
        cases l with
        | nil =>
          have hU : U = (q, 0) := by rw [HU.out]; simp [val]
          have HUU := Go.Lib.hid hU; clear hU HU
          go_wp2_with fail
          rw [HUU.out]
          refine bodyPost_ret (v := .tuple #[.agg #[.string ⟨q.b.toArray⟩, .int .i64 q.e], .int .u64 0]) (by simp [results, Try.results28, go_sem, e0, e1, e2, e3, hz, val]) rfl ⟨rfl, ?_⟩
          repeat (first | exact B3 | refine Below.setCell ?_ (by simp) _)
        | cons c l =>
          have hc0 : ∀ h, (ByteArray.mk (c :: l).toArray)[0]'h = c := fun _ => rfl
          by_cases hz0 : c = 0
          · subst hz0
            have hU : U = (q.fail 11, 0) := by rw [HU.out]; simp
            have hf : q.fail 11 = { q with e := 11 } := by simp [Rr.fail, HE.out]
            rw [hf] at hU
            have HUU := Go.Lib.hid hU; clear hU HU hf
            have R1k := R1'.set1 (.int .i64 11)
            have k0 := R1k.c0; have k1 := R1k.c1
            clear R1k
            have hz1 : (((0 : UInt8).toNat : Int) == 0) = true := rfl
            go_wp2_with fail
            rw [HUU.out]
            refine bodyPost_ret (v := .tuple #[.agg #[.string ⟨q.b.toArray⟩, .int .i64 11], .int .u64 0]) (by simp [results, Try.results28, go_sem, e0, e1, e2, e3, hz]) rfl ⟨rfl, ?_⟩
            repeat (first | exact B3 | refine Below.setCell ?_ (by simp) _)
          · have hU : U = (q, val (c :: l)) := by rw [HU.out]; simp [hz0]
            have HUU := Go.Lib.hid hU; clear hU HU
            have hz1 : ((c.toNat : Int) == 0) = false := by
              simp only [beq_eq_false_iff_ne]; intro e; exact hz0 (UInt8.toNat_inj.1 (by simpa using (by omega : c.toNat = 0)))
            generalize val (c :: l) = V at *
            go_wp2_with fail
            rw [HUU.out]
            refine bodyPost_ret (v := .tuple #[.agg #[.string ⟨q.b.toArray⟩, .int .i64 q.e], .int .u64 (V : Int)]) (by simp [results, Try.results28, go_sem, e0, e1, e2, e3, hz]) rfl ⟨rfl, ?_⟩
            repeat (first | exact B3 | refine Below.setCell ?_ (by simp) _)
  · have he' : (s.1.e != 0) = true := by simp [he]
    have hU : U = (s.1, 0) := by rw [HU.out, hnil]; simp [val]
    have HE := Go.Lib.hid he; have HN := Go.Lib.hid hnil; clear he hnil
    have HUU := Go.Lib.hid hU; clear hU
    go_wp2_with fail
    rw [HUU.out]
    refine bodyPost_ret (v := .tuple #[.agg #[.string ⟨s.1.b.toArray⟩, .int .i64 s.1.e], .int .u64 0]) (by simp [results, Try.results28, go_sem, e0, e1, e2, e3, hz]) rfl ⟨rfl, ?_⟩
    repeat (first | exact B3 | refine Below.setCell ?_ (by simp) _)

set_option maxHeartbeats 2000000 in
theorem refRead_any (w : World) (r : Rr) (hl : r.b.length ≤ 100000000) :
    Calls Try.prog 28 #[refR r] w (RefRU w r.uint) := by
  by_cases he : r.e = 0
  · obtain ⟨b, e⟩ := r
    simp only at he hl
    subst he
    cases b with
    | nil =>
      have hq : Rr.uint ⟨[], 0⟩ = (⟨[], 10⟩, 0) := by simp [Rr.uint, Rr.take]
      have hr : Rr.raw ⟨[], 0⟩ 1 = (⟨[], 10⟩, []) := by simp [Rr.raw, Rr.take]
      rw [hq]
      have c1 := refRaw_any ((w.alloc (.cells #[.string ⟨([] : List UInt8).toArray⟩, .int .i64 0] 69)).alloc (.cells #[.string ⟨([] : List UInt8).toArray⟩, .int .i64 0] 69)) ⟨[], 0⟩ 1 (by omega) (by simp)
      rw [hr] at c1
      unfold refR at *
      go_enter Try.func28, Try.ntmps28
      go_wp2_with fail
      refine c1.mono ?_
      rintro e w1 ⟨rfl, hb1⟩
      obtain ⟨d0, d1, d2, d3, f0, f1, f2, f3, hz⟩ := two_cells hb1
      have B1 := (below2 w _ _).trans (hb1.mono (by simp; omega))
      go_wp2_with fail
      refine bodyPost_ret (v := .tuple #[.agg #[.string ⟨([] : List UInt8).toArray⟩, .int .i64 10], .int .u64 0]) (by simp [results, Try.results28, go_sem, d0, d1, d2, d3, hz]) rfl ⟨rfl, ?_⟩
      repeat (first | exact B1 | refine Below.setCell ?_ (by simp) _)
    | cons y b =>
      have hyy : ∀ h, (ByteArray.mk #[y])[0]'h = y := fun _ => rfl
      have hr : Rr.raw ⟨y :: b, 0⟩ 1 = (⟨b, 0⟩, [y]) := by simp [Rr.raw, Rr.take]
      have c1 := refRaw_any ((w.alloc (.cells #[.string ⟨(y :: b : List UInt8).toArray⟩, .int .i64 0] 69)).alloc (.cells #[.string ⟨([] : List UInt8).toArray⟩, .int .i64 0] 69)) ⟨y :: b, 0⟩ 1 (by omega) hl
      rw [hr] at c1
      have hu := Rr.uint_step y b
      by_cases h8 : 8 < y.toNat
      · rw [if_pos h8] at hu
        rw [hu]
        have h8' : (8 : Int) < (y.toNat : Int) := by omega
        unfold refR at *
        go_enter Try.func28, Try.ntmps28
        go_wp2_with fail
        refine c1.mono ?_
        rintro e w1 ⟨rfl, hb1⟩
        obtain ⟨d0, d1, d2, d3, f0, f1, f2, f3, hz⟩ := two_cells hb1
        have B1 := (below2 w _ _).trans (hb1.mono (by simp; omega))
        have R1 := ((row2 (two_rows hb1).1).set (.string ⟨b.toArray⟩) (.int .i64 0)).set1 (.int .i64 11)
        have e0 := R1.c0
        have e1 := R1.c1
        clear R1
        go_wp2_with fail
        refine bodyPost_ret (v := .tuple #[.agg #[.string ⟨b.toArray⟩, .int .i64 11], .int .u64 0]) (by simp [results, Try.results28, go_sem, d0, d1, d2, d3, hz]) rfl ⟨rfl, ?_⟩
        repeat (first | exact B1 | refine Below.setCell ?_ (by simp) _)
      · exact refRead_go w y b (by omega) hl
  · have hq := Rr.uint_err he
    have he' : (r.e != 0) = true := by simp [he]
    rw [hq]
    have c1 := refRaw_any ((w.alloc (.cells #[.string ⟨(r.b : List UInt8).toArray⟩, .int .i64 r.e] 69)).alloc (.cells #[.string ⟨([] : List UInt8).toArray⟩, .int .i64 0] 69)) r 1 (by omega) hl
    rw [Rr.raw_err he] at c1
    clear he
    unfold refR at *
    go_enter Try.func28, Try.ntmps28
    go_wp2_with fail
    refine c1.mono ?_
    rintro e w1 ⟨rfl, hb1⟩
    obtain ⟨d0, d1, d2, d3, f0, f1, f2, f3, hz⟩ := two_cells hb1
    have B1 := (below2 w _ _).trans (hb1.mono (by simp; omega))
    go_wp2_with fail
    refine bodyPost_ret (v := .tuple #[.agg #[.string ⟨r.b.toArray⟩, .int .i64 r.e], .int .u64 0]) (by simp [results, Try.results28, go_sem, d0, d1, d2, d3, hz]) rfl ⟨rfl, ?_⟩
    repeat (first | exact B1 | refine Below.setCell ?_ (by simp) _)
end Go.Proofs.Ytnkmlopgfgdajaa
