/- The walk for the statement NumsReads. -/
import Derived.Test.YtgblgifnppfejaaNla
import Derived.Test.YtgblgifnppfejaaNrh
namespace Go.Proofs.Ytgblgifnppfejaa
open Go.RowKit
open Go.NB (Rd Kp Stp Off Dis Rr footR val encU encB digs)

theorem rdB_empty (w : World) (b : Nat) : NB.RdB w (some ⟨b, 0, none⟩) 0 0 [] :=
  ⟨rfl, Nat.le_refl _, Nat.zero_le _, (fun e => nomatch e), (fun h => absurd h (by omega)), fun b o e i v hi => by simp at hi⟩
theorem sw3 (A : Int) : (A == 0) = true ∨ ((A == 0) = false ∧ (A == 1) = true) ∨ ((A == 0) = false ∧ (A == 1) = false ∧ (A == 2) = true) ∨ ((A == 0) = false ∧ (A == 1) = false ∧ (A == 2) = false) := by
  cases (A == 0) <;> cases (A == 1) <;> cases (A == 2) <;> simp
theorem own_not {w w' : World} {a : Option Addr} {c G : Nat} {bs : List UInt8} (h : NB.OwnB w' w.heap.size 5 (.slice a bs.length c) bs) (hG : G < w.heap.size) : ∀ b o, a = some ⟨b, o, none⟩ → bs ≠ [] → ¬ (b = G) := by
  obtain ⟨a1, c1, e1, hr, hl, _⟩ := NB.rd_of_own h
  cases e1
  intro b o e _ hb
  have := (hl b o e).1
  omega
theorem bytes_keeps (r : Rr) (n : Int) : (r.bytes n).1.b.length ≤ r.b.length := by
  have hu := uint_keeps r
  simp only [Rr.bytes]
  split
  · exact hu
  · split
    · unfold Rr.fail
      split <;> exact hu
    · exact Nat.le_trans (raw_keeps _ _) hu

set_option maxRecDepth 100000 in
set_option maxHeartbeats 4000000 in
theorem law_reads (w : World) (a : Option Addr) (n c : Nat) (b : List UInt8) (a' : Option Addr) (n' c' : Nat) (t : List UInt8) (h : NB.RdB w a n c b) (h' : NB.RdB w a' n' c' t) :
    Calls Try.prog 4 #[.slice a n c, .slice a' n' c'] w fun e w' => e = .returned (.bool true) ∧ Below w.heap.size w w' := by
  have hbd := Rd.bound h
  have hbd' := Rd.bound h'
  have hsz := NB.RdB.size h
  have hsz' := NB.RdB.size h'
  by_cases hn : n ≤ 300
  · have hnz : (n : Int) ≤ 300 := by omega
    by_cases hn' : n' ≤ 60
    · have hnz' : (n' : Int) ≤ 60 := by omega
      go_enter Try.func4, Try.ntmps4
      go_wp2_with (first
        | (go_at_call 9; refine (awake_any _).mono ?_; rintro e w1 ⟨rfl, hb1⟩)
        | (go_at_call 17; refine (rnew_any _ _ _ _ _ (h.below hb1) (by omega)).mono ?_; rintro e w2 ⟨q, F2, rfl, hR2, hb2⟩; have B2 := NB.bel hb1 hb2 hb1.size)
        | (refine NB.wpList_conv_str rfl 23 9 (.tmp 28) rfl Try.underlying23 Try.underlying5 Try.underlying9 a n c b rfl (h.below B2) ?_))
      have hbase := hb1.size
      have hR3 := hR2.below ((Below.refl _ w2).alloc (Nat.le_refl _) (.cells #[.string ⟨b.toArray⟩, .int .i64 0] 38))
      have B3 := B2.alloc B2.size (.cells #[.string ⟨b.toArray⟩, .int .i64 0] 38)
      have row3 : Row2 (w2.alloc (.cells #[.string ⟨b.toArray⟩, .int .i64 0] 38)) w2.heap.size (.string ⟨b.toArray⟩) (.int .i64 0) 38 := row2 (heap_alloc_new w2 _)
      have hd3 : Dis F2 (fun k => k = w2.heap.size) := fun k hk e => by have := (hR2.foot k hk).2; omega
      have hGw : w.heap.size ≤ w2.heap.size := B2.size
      have hl2 : (⟨b, 0⟩ : Rr).b.length ≤ 300 := by show b.length ≤ 300; omega
      have row4 : Row2 (w2.alloc (.cells #[.string ⟨b.toArray⟩, .int .i64 0] 38)) w2.heap.size (.string ⟨(⟨b, 0⟩ : Rr).b.toArray⟩) (.int .i64 (⟨b, 0⟩ : Rr).e) 38 := row3
      generalize (⟨b, 0⟩ : Rr) = r0 at *
      clear hR2 hb2 B2 row3 hb1
      generalize w2.heap.size = G at *
      go_loopw [8] (fun i wr => ∃ (k : Nat) (R : Rr) (F : Nat → Prop), k ≤ n' ∧ i = .int .i64 k ∧ HasR wr w1.heap.size q F R ∧ Row2 wr G (.string ⟨R.b.toArray⟩) (.int .i64 R.e) 38 ∧ Dis F (fun k => k = G) ∧ R.b.length ≤ 300 ∧ Below w.heap.size w wr) (fun i _ => n' - (intOf i).toNat)
      case atStart => exact ⟨0, r0, F2, by omega, rfl, hR3, row4, hd3, hl2, B3⟩
      case round =>
        clear B3 hR3 hl2 row4 hd3
        obtain ⟨k, R, F, hk, rfl, hR, row, hd, hl, hB⟩ := hrel
        by_cases hlt : k < n'
        · obtain ⟨b3, o3, rfl, hc3⟩ := NB.RdB.at (h'.below (hB.alloc hB.size (.cells #[] 5))) (by omega)
          have q3 := hc3 k hlt
          obtain ⟨b3', o3', e3', hc3'⟩ := NB.RdB.at (h'.below hB) (by omega)
          cases e3'
          have q3' := hc3' k hlt
          clear hc3 hc3'
          generalize t.getD k 0 = y at *
          have hy := y.toNat_lt
          have hki : (k : Int) < (n' : Int) := by omega
          have hRe := hR.below ((Below.refl _ wr).alloc (Nat.le_refl _) (.cells #[] 5))
          have rowe := row.below ((Below.refl _ wr).alloc (Nat.le_refl _) (.cells #[] 5))
          have Be := hB.alloc hB.size (.cells #[] 5)
          have hnn : (y.toNat : Int) / 4 - 1 ≤ 9223372036854775807 := by omega
          clear hR row hB
          rcases sw3 (bits .and .u8 (y.toNat : Int) 3) with g0 | ⟨g0, g1⟩ | ⟨g0, g1, g2⟩ | ⟨g0, g1, g2⟩
          case' inl =>
            go_wp2_with (first
              | (go_at_call 18; refine (ruint_any _ _ _ _ _ hRe).mono ?_; rintro e w3 ⟨rfl, F3, hR3, hS3⟩; have rb3 : NB.RdB w3 (some ⟨wr.heap.size, 0, none⟩) 0 0 [] := rdB_empty _ _; have nb3 : ∀ b o, (some ⟨wr.heap.size, 0, none⟩ : Option Addr) = some ⟨b, o, none⟩ → ([] : List UInt8) ≠ [] → ¬ (b = G) := fun _ _ _ hn => absurd rfl hn; have hd3 := (hd.symm.step (fun k e => by rw [e]; exact rowe.lt) hS3).symm; have row3 := row2 (hS3.kp.block G rowe.lt (fun hf => hd G hf rfl) |>.trans rowe.row); have B3 := NB.bel Be (hRe.low hS3) hbase; have e0 := row3.c0; have e1 := row3.c1; have e2 := row3.f0; have e3 := row3.f1; have e4 := row3.lt))
            refine (refRead_any _ R (by omega)).mono ?_
            rintro e w4 ⟨rfl, hb4⟩
            have row4 := row3.below hb4
            have B4 := NB.bel B3 hb4 B3.size
            have row5 := row4.set (.string ⟨(R.uint).1.b.toArray⟩) (.int .i64 (R.uint).1.e)
            have B5 := (B4.setCell (p := ⟨G, 0, none⟩) hGw (.string ⟨(R.uint).1.b.toArray⟩)).setCell (p := ⟨G, 1, none⟩) hGw (.int .i64 (R.uint).1.e)
            have K5 : Kp (fun k => k = G) w4 _ := ((Kp.refl (fun k => k = G) w4).setCell (x := ⟨G, 0, none⟩) (.inl rfl) (.string ⟨(R.uint).1.b.toArray⟩)).setCell (x := ⟨G, 1, none⟩) (.inl rfl) (.int .i64 (R.uint).1.e)
            have hR5 := (hR3.below hb4).keep K5 hd3
            have RB5 := K5.rdB (Rd.below rb3 hb4) nb3
            have hl5 := Nat.le_trans (uint_keeps R) hl
            have hd5 := hd3
            clear e0 e1 e2 e3 e4 row3 hb4 B4 B3 hRe rowe Be hR3 rb3 nb3 K5
            have e0 := row4.c0; have e1 := row4.c1; have e2 := row4.f0; have e3 := row4.f1; have e4 := row4.lt
            clear row4
            go_wp2_with fail
            clear e0 e1 e2 e3 e4
            generalize ((w4.setCell ⟨G, 0, none⟩ (.string ⟨(R.uint).1.b.toArray⟩)).setCell ⟨G, 1, none⟩ (.int .i64 (R.uint).1.e)) = w5 at *
          case' inr.inl =>
            go_wp2_with (first
              | (go_at_call 18; refine (ruint_any _ _ _ _ _ hRe).mono ?_; rintro e w3 ⟨rfl, F3, hR3, hS3⟩; have rb3 : NB.RdB w3 (some ⟨wr.heap.size, 0, none⟩) 0 0 [] := rdB_empty _ _; have nb3 : ∀ b o, (some ⟨wr.heap.size, 0, none⟩ : Option Addr) = some ⟨b, o, none⟩ → ([] : List UInt8) ≠ [] → ¬ (b = G) := fun _ _ _ hn => absurd rfl hn; have hd3 := (hd.symm.step (fun k e => by rw [e]; exact rowe.lt) hS3).symm; have row3 := row2 (hS3.kp.block G rowe.lt (fun hf => hd G hf rfl) |>.trans rowe.row); have B3 := NB.bel Be (hRe.low hS3) hbase; have e0 := row3.c0; have e1 := row3.c1; have e2 := row3.f0; have e3 := row3.f1; have e4 := row3.lt))
            refine (refRead_any _ R (by omega)).mono ?_
            rintro e w4 ⟨rfl, hb4⟩
            have row4 := row3.below hb4
            have B4 := NB.bel B3 hb4 B3.size
            have row5 := row4.set (.string ⟨(R.uint).1.b.toArray⟩) (.int .i64 (R.uint).1.e)
            have B5 := (B4.setCell (p := ⟨G, 0, none⟩) hGw (.string ⟨(R.uint).1.b.toArray⟩)).setCell (p := ⟨G, 1, none⟩) hGw (.int .i64 (R.uint).1.e)
            have K5 : Kp (fun k => k = G) w4 _ := ((Kp.refl (fun k => k = G) w4).setCell (x := ⟨G, 0, none⟩) (.inl rfl) (.string ⟨(R.uint).1.b.toArray⟩)).setCell (x := ⟨G, 1, none⟩) (.inl rfl) (.int .i64 (R.uint).1.e)
            have hR5 := (hR3.below hb4).keep K5 hd3
            have RB5 := K5.rdB (Rd.below rb3 hb4) nb3
            have hl5 := Nat.le_trans (uint_keeps R) hl
            have hd5 := hd3
            clear e0 e1 e2 e3 e4 row3 hb4 B4 B3 hRe rowe Be hR3 rb3 nb3 K5
            have e0 := row4.c0; have e1 := row4.c1; have e2 := row4.f0; have e3 := row4.f1; have e4 := row4.lt
            clear row4
            go_wp2_with fail
            clear e0 e1 e2 e3 e4
            generalize ((w4.setCell ⟨G, 0, none⟩ (.string ⟨(R.uint).1.b.toArray⟩)).setCell ⟨G, 1, none⟩ (.int .i64 (R.uint).1.e)) = w5 at *
          case' inr.inr.inl =>
            go_wp2_with (first
              | (go_at_call 20; refine (rbytes_any _ _ _ _ _ _ hnn hRe (by omega)).mono ?_; rintro e w3 ⟨a3, c3, F3, rfl, ho3, hR3, hS3, hf3⟩; have rb3 := hf3.rd; have nb3 : ∀ b o, a3 = some ⟨b, o, none⟩ → (R.bytes ((y.toNat : Int) / 4 - 1)).2 ≠ [] → ¬ (b = G) := own_not ho3 rowe.lt; have hd3 := (hd.symm.step (fun k e => by rw [e]; exact rowe.lt) hS3).symm; have row3 := row2 (hS3.kp.block G rowe.lt (fun hf => hd G hf rfl) |>.trans rowe.row); have B3 := NB.bel Be (hRe.low hS3) hbase; have e0 := row3.c0; have e1 := row3.c1; have e2 := row3.f0; have e3 := row3.f1; have e4 := row3.lt))
            refine (refRB_any _ R _ hnn (by omega)).mono ?_
            rintro e w4 ⟨rfl, hb4⟩
            have row4 := row3.below hb4
            have B4 := NB.bel B3 hb4 B3.size
            have row5 := row4.set (.string ⟨(R.bytes ((y.toNat : Int) / 4 - 1)).1.b.toArray⟩) (.int .i64 (R.bytes ((y.toNat : Int) / 4 - 1)).1.e)
            have B5 := (B4.setCell (p := ⟨G, 0, none⟩) hGw (.string ⟨(R.bytes ((y.toNat : Int) / 4 - 1)).1.b.toArray⟩)).setCell (p := ⟨G, 1, none⟩) hGw (.int .i64 (R.bytes ((y.toNat : Int) / 4 - 1)).1.e)
            have K5 : Kp (fun k => k = G) w4 _ := ((Kp.refl (fun k => k = G) w4).setCell (x := ⟨G, 0, none⟩) (.inl rfl) (.string ⟨(R.bytes ((y.toNat : Int) / 4 - 1)).1.b.toArray⟩)).setCell (x := ⟨G, 1, none⟩) (.inl rfl) (.int .i64 (R.bytes ((y.toNat : Int) / 4 - 1)).1.e)
            have hR5 := (hR3.below hb4).keep K5 hd3
            have RB5 := K5.rdB (Rd.below rb3 hb4) nb3
            have hl5 := Nat.le_trans (bytes_keeps R ((y.toNat : Int) / 4 - 1)) hl
            have hd5 := hd3
            clear e0 e1 e2 e3 e4 row3 hb4 B4 B3 hRe rowe Be hR3 rb3 nb3 K5
            have e0 := row4.c0; have e1 := row4.c1; have e2 := row4.f0; have e3 := row4.f1; have e4 := row4.lt
            clear row4
            go_wp2_with fail
            clear e0 e1 e2 e3 e4
            generalize ((w4.setCell ⟨G, 0, none⟩ (.string ⟨(R.bytes ((y.toNat : Int) / 4 - 1)).1.b.toArray⟩)).setCell ⟨G, 1, none⟩ (.int .i64 (R.bytes ((y.toNat : Int) / 4 - 1)).1.e)) = w5 at *
          case' inr.inr.inr =>
            go_wp2_with (first
              | (go_at_call 22; refine (rraw_any _ _ _ _ _ _ hnn hRe (by omega)).mono ?_; rintro e w3 ⟨a3, c3, F3, rfl, ho3, hR3, hS3, hf3⟩; have rb3 := hf3.rd; have nb3 : ∀ b o, a3 = some ⟨b, o, none⟩ → (R.raw ((y.toNat : Int) / 4 - 1)).2 ≠ [] → ¬ (b = G) := own_not ho3 rowe.lt; have hd3 := (hd.symm.step (fun k e => by rw [e]; exact rowe.lt) hS3).symm; have row3 := row2 (hS3.kp.block G rowe.lt (fun hf => hd G hf rfl) |>.trans rowe.row); have B3 := NB.bel Be (hRe.low hS3) hbase; have e0 := row3.c0; have e1 := row3.c1; have e2 := row3.f0; have e3 := row3.f1; have e4 := row3.lt))
            refine (refRaw_any _ R _ hnn (by omega)).mono ?_
            rintro e w4 ⟨rfl, hb4⟩
            have row4 := row3.below hb4
            have B4 := NB.bel B3 hb4 B3.size
            have row5 := row4.set (.string ⟨(R.raw ((y.toNat : Int) / 4 - 1)).1.b.toArray⟩) (.int .i64 (R.raw ((y.toNat : Int) / 4 - 1)).1.e)
            have B5 := (B4.setCell (p := ⟨G, 0, none⟩) hGw (.string ⟨(R.raw ((y.toNat : Int) / 4 - 1)).1.b.toArray⟩)).setCell (p := ⟨G, 1, none⟩) hGw (.int .i64 (R.raw ((y.toNat : Int) / 4 - 1)).1.e)
            have K5 : Kp (fun k => k = G) w4 _ := ((Kp.refl (fun k => k = G) w4).setCell (x := ⟨G, 0, none⟩) (.inl rfl) (.string ⟨(R.raw ((y.toNat : Int) / 4 - 1)).1.b.toArray⟩)).setCell (x := ⟨G, 1, none⟩) (.inl rfl) (.int .i64 (R.raw ((y.toNat : Int) / 4 - 1)).1.e)
            have hR5 := (hR3.below hb4).keep K5 hd3
            have RB5 := K5.rdB (Rd.below rb3 hb4) nb3
            have hl5 := Nat.le_trans (raw_keeps R ((y.toNat : Int) / 4 - 1)) hl
            have hd5 := hd3
            clear e0 e1 e2 e3 e4 row3 hb4 B4 B3 hRe rowe Be hR3 rb3 nb3 K5
            have e0 := row4.c0; have e1 := row4.c1; have e2 := row4.f0; have e3 := row4.f1; have e4 := row4.lt
            clear row4
            go_wp2_with fail
            clear e0 e1 e2 e3 e4
            generalize ((w4.setCell ⟨G, 0, none⟩ (.string ⟨(R.raw ((y.toNat : Int) / 4 - 1)).1.b.toArray⟩)).setCell ⟨G, 1, none⟩ (.int .i64 (R.raw ((y.toNat : Int) / 4 - 1)).1.e)) = w5 at *
          all_goals
            refine NB.wp_region_t [] (by kernel_rfl) ?_
            have RBv := Go.Lib.hid (Rd.below RB5 (Below.refl _ w5).drew)
            have hRv := hR5.below (Below.refl _ w5).drew
            have rowv := row5.below (Below.refl _ w5).drew
            have Bv := B5.drew
            clear RB5 hR5 row5 B5
            generalize w5.drew = v at *
            refine NB.t_p 0 rfl (by kernel_rfl) (fun K hK => ?_); go_simp; refine hK _ ?_; clear hK K
            refine NB.t_p 1 rfl (by kernel_rfl) (fun K hK => ?_); go_simp; refine hK _ ?_; clear hK K
            refine NB.t_p 2 rfl (by kernel_rfl) (fun K hK => ?_); go_simp; refine hK _ ?_; clear hK K
            refine NB.t_p 3 rfl (by kernel_rfl) (fun K hK => ?_); go_simp; refine hK _ ?_; clear hK K
            refine NB.t_p 4 rfl (by kernel_rfl) (fun K hK => ?_); go_simp; refine hK _ ?_; clear hK K
            refine NB.t_r 5 [] rfl (by kernel_rfl) (by kernel_rfl) rfl _ (fun w' hw' => NB.run_op_conv_str Try.underlying23 Try.underlying5 Try.underlying9 rfl rfl (Rd.below RBv.out hw')) (fun K hK => ?_); go_simp; refine hK _ ?_; clear hK K
            refine NB.t_p 6 rfl (by kernel_rfl) (fun K hK => ?_); go_simp; refine hK _ ?_; clear hK K
            refine NB.t_p 7 rfl (by kernel_rfl) (fun K hK => ?_); go_simp; refine hK _ ?_; clear hK K
            refine NB.t_p 8 rfl (by kernel_rfl) (fun K hK => ?_); go_simp; refine hK _ ?_; clear hK K
            refine NB.t_p 9 rfl (by kernel_rfl) (fun K hK => ?_); go_simp; refine hK _ ?_; clear hK K
            refine NB.t_p 10 rfl (by kernel_rfl) (fun K hK => ?_); go_simp; refine hK _ ?_; clear hK K
            refine NB.t_p 12 rfl (by kernel_rfl) (fun K hK => ?_); go_simp; refine hK _ ?_; clear hK K
            refine NB.t_r 13 [] rfl (by kernel_rfl) (by kernel_rfl) rfl _ (fun w' hw' => NB.run_op_load rfl rfl Try.underlying36 rfl rowv.c1 hw') (fun K hK => ?_); go_simp; refine hK _ ?_; clear hK K
            refine NB.t_e 11 rfl (by kernel_rfl) (by kernel_rfl) (fun K hK => ?_); unfold NB.tmoves; go_simp; refine (rerr_any _ _ _ _ _ hRv).mono ?_; rintro e w' ⟨rfl, e2⟩; subst w'; refine ⟨_, rfl, Below.refl _ _, hK _ _ ?_⟩; clear hK K
            refine NB.t_p 14 rfl (by kernel_rfl) (fun K hK => ?_); go_simp; refine hK _ ?_; clear hK K
            refine NB.t_p 15 rfl (by kernel_rfl) (fun K hK => ?_); go_simp; refine hK _ ?_; clear hK K
            refine NB.t_p 16 rfl (by kernel_rfl) (fun K hK => ?_); go_simp; refine hK _ ?_; clear hK K
            refine NB.t_p 17 rfl (by kernel_rfl) (fun K hK => ?_); go_simp; refine hK _ ?_; clear hK K
            refine NB.t_r 19 [] rfl (by kernel_rfl) (by kernel_rfl) rfl _ (fun w' hw' => NB.run_op_load_agg rfl rfl Try.underlying38 rfl 38 _ (0, 0) rowv.row (m := 2) (by kernel_rfl) (by simp) _ rfl hw') (fun K hK => ?_); go_simp; refine hK _ ?_; clear hK K
            refine NB.t_e 18 rfl (by kernel_rfl) (by kernel_rfl) (fun K hK => ?_); unfold NB.tmoves; go_simp; refine (rend_any _ _ _ _ _ hRv).mono ?_; rintro e w' ⟨rfl, e2⟩; subst w'; refine ⟨_, rfl, Below.refl _ _, hK _ _ ?_⟩; clear hK K
            refine NB.t_e 20 rfl (by kernel_rfl) (by kernel_rfl) (fun K hK => ?_); unfold NB.tmoves; go_simp; refine (refEnd_any _ _).mono ?_; rintro e w6 ⟨rfl, hb6⟩; refine ⟨_, rfl, hb6, hK _ _ ?_⟩; clear hK K
            refine NB.t_p 21 rfl (by kernel_rfl) (fun K hK => ?_); go_simp; refine hK _ ?_; clear hK K
            refine NB.t_p 22 rfl (by kernel_rfl) (fun K hK => ?_); go_simp; refine hK _ ?_; clear hK K
            refine NB.t_end (by kernel_rfl) ?_
            go_wp2_with fail
            go_roundw
            case rel => exact ⟨k + 1, _, _, by omega, by go_num, hRv.below hb6, rowv.below hb6, hd5, hl5, NB.bel Bv hb6 Bv.size⟩
            case measure => simp [intOf]; omega
        · obtain rfl : k = n' := by omega
          clear row hd hl hR
          go_wp2_with (first
            | (go_at_call 18; refine (ruint_nil _).mono ?_; rintro e w' ⟨rfl, e2⟩; subst w')
            | (go_at_call 22; refine (rraw_nil _ _).mono ?_; rintro e w' ⟨rfl, e2⟩; subst w')
            | (go_at_call 20; refine (rbytes_nil _ _).mono ?_; rintro e w' ⟨rfl, e2⟩; subst w')
            | (go_at_call 24; refine (rerr_nil _).mono ?_; rintro e w' ⟨rfl, e2⟩; subst w')
            | (go_at_call 25; refine (rend_nil _).mono ?_; rintro e w' ⟨rfl, e2⟩; subst w'))
          go_ret
          exact ⟨rfl, hB⟩
    · have hnz' : ¬ (n' : Int) ≤ 60 := by omega
      go_enter Try.func4, Try.ntmps4
      go_wp2_with (first
          | (go_at_call 9; refine (awake_any _).mono ?_; rintro e w1 ⟨rfl, hb1⟩))
      go_ret
      exact ⟨rfl, hb1⟩
  · have hnz : ¬ (n : Int) ≤ 300 := by omega
    go_enter Try.func4, Try.ntmps4
    go_wp2_with (first
        | (go_at_call 9; refine (awake_any _).mono ?_; rintro e w1 ⟨rfl, hb1⟩))
    go_ret
    exact ⟨rfl, hb1⟩
end Go.Proofs.Ytgblgifnppfejaa
