/- A command as the document's reference has it: cmdOf, walked. -/
import Derived.Test.YtnkmlopgfgdajaaRcb
namespace Go.Proofs.Ytnkmlopgfgdajaa
open Go.RowKit
open Go.NB (Rd RdU Kp Stp Dis Rr Rw oneB dB)

/-- What stands while the rows are copied. -/
structure CofI (w0 : World) (g1 g2 g3 : Nat) (v1 v2 v3 : List Value) (v : Value) (L : List Iw) (w : World) : Prop where
  r1 : Rw w g1 v1 27
  r2 : Rw w g2 v2 33
  r3 : Rw w g3 v3 33
  own : w.ownsRow w0.heap.size 78 2 v L.length (iwsV L)
  d : ∀ k, v.ownBlock = some k → k ≠ g1 ∧ k ≠ g2 ∧ k ≠ g3
  d13 : g1 ≠ g3
  d23 : g2 ≠ g3
  b3 : w0.heap.size ≤ g3
  bel : Below w0.heap.size w0 w
section
variable {w0 w w' : World} {g1 g2 g3 : Nat} {v1 v2 v3 : List Value} {v v' : Value} {L : List Iw}
theorem CofI.below (h : CofI w0 g1 g2 g3 v1 v2 v3 v L w) (hb : Below w.heap.size w w') : CofI w0 g1 g2 g3 v1 v2 v3 v L w' :=
  ⟨h.r1.below hb, h.r2.below hb, h.r3.below hb, NB.own_keep h.own hb, h.d, h.d13, h.d23, h.b3, NB.bel h.bel hb h.bel.size⟩
theorem CofI.app (h : CofI w0 g1 g2 g3 v1 v2 v3 v L w) (x : Iw) (hg : w.grownBy w' v.ownBlock) (ho : w'.ownsRow w0.heap.size 78 2 v' (L.length + 1) (iwsV L ++ iwV x)) (hv : ∀ k, v'.ownBlock = some k → v.ownBlock = some k ∨ w.heap.size ≤ k) :
    CofI w0 g1 g2 g3 v1 v2 (v3.set 6 v') v' (L ++ [x]) (w'.setCell ⟨g3, 6, none⟩ v') ∧ Rw w' g3 v3 33 := by
  have k1 : Kp (fun k => v.ownBlock = some k) w w' := (Kp.refl _ w).grown hg (fun k e => .inl e)
  have a1 := h.r1.lt; have a2 := h.r2.lt; have a3 := h.r3.lt
  have hne : ∀ k, v'.ownBlock = some k → k ≠ g1 ∧ k ≠ g2 ∧ k ≠ g3 := fun k e => by
    rcases hv k e with e2 | e2
    · exact h.d k e2
    · exact ⟨by omega, by omega, by omega⟩
  have r3' := h.r3.keep k1 (fun e => (h.d _ e).2.2 rfl)
  refine ⟨⟨(h.r1.keep k1 (fun e => (h.d _ e).1 rfl)).other h.d13 6 v', (h.r2.keep k1 (fun e => (h.d _ e).2.1 rfl)).other h.d23 6 v', r3'.set 6 v', ?_, hne, h.d13, h.d23, h.b3, ?_⟩, r3'⟩
  · rw [List.length_append, ← iws_snoc]
    exact (((Kp.refl (fun k => k = g3) w').setCell (x := ⟨g3, 6, none⟩) (.inl rfl) v') : Kp (fun k => k = g3) w' _).own ho (fun k e hk => (hne k e).2.2 hk)
  · exact (h.bel.grown hg h.bel.size (fun k e => (h.own.lt k e).1)).setCell (p := ⟨g3, 6, none⟩) h.b3 v'
end

/-- A command of the reference, in new memory. -/
def CofE (w : World) (op sh sg : Int) (cl sq ps n : Nat) (L : List Iw) (e : Ending) (w' : World) : Prop :=
  ∃ a c, e = .returned (.agg #[.int .i64 op, .int .u64 (cl : Int), .int .u64 (sq : Int), .int .i64 sh, .int .i64 sg, .int .u64 (ps : Int), .slice a n c]) ∧ RdW w' a n c L ∧ Below w.heap.size w w'

set_option maxRecDepth 100000 in
set_option maxHeartbeats 8000000 in
theorem cof_any (w : World) (op sh sg : Int) (cl sq ps n c : Nat) (a : Option Addr) (L : List Iw) (h : RdW w a n c L) (hn : n ≤ 100000) :
    Calls Try.prog 14 #[.agg #[.int .i64 op, .int .u64 (cl : Int), .int .u64 (sq : Int), .int .i64 sh, .int .i64 sg, .int .u64 (ps : Int), .slice a n c]] w (CofE w op sh sg cl sq ps n L) := by
  have hbd := Rd.bound h.rd
  have HLN := Go.Lib.hid h.len
  have I0 : CofI w w.heap.size (w.heap.size + 1) (w.heap.size + 2) [Value.int .i64 op, .int .u64 (cl : Int), .int .u64 (sq : Int), .int .i64 sh, .int .i64 sg, .int .u64 (ps : Int), .slice a n c] [Value.int .i64 0, .int .u64 0, .int .u64 0, .int .i64 0, .int .i64 0, .int .u64 0, .slice none 0 0] [Value.int .i64 op, .int .u64 (cl : Int), .int .u64 (sq : Int), .int .i64 sh, .int .i64 sg, .int .u64 (ps : Int), .slice none 0 0] (.slice none 0 0) [] (((w.alloc (.cells #[.int .i64 op, .int .u64 (cl : Int), .int .u64 (sq : Int), .int .i64 sh, .int .i64 sg, .int .u64 (ps : Int), .slice a n c] 27)).alloc (.cells #[.int .i64 0, .int .u64 0, .int .u64 0, .int .i64 0, .int .i64 0, .int .u64 0, .slice none 0 0] 33)).alloc (.cells #[.int .i64 op, .int .u64 (cl : Int), .int .u64 (sq : Int), .int .i64 sh, .int .i64 sg, .int .u64 (ps : Int), .slice none 0 0] 33)) :=
    ⟨((NB.rw_new w [Value.int .i64 op, .int .u64 (cl : Int), .int .u64 (sq : Int), .int .i64 sh, .int .i64 sg, .int .u64 (ps : Int), .slice a n c] 27 rfl).below (oneB _ _)).below (oneB _ _), (NB.rw_new (w.alloc (.cells #[.int .i64 op, .int .u64 (cl : Int), .int .u64 (sq : Int), .int .i64 sh, .int .i64 sg, .int .u64 (ps : Int), .slice a n c] 27)) [Value.int .i64 0, .int .u64 0, .int .u64 0, .int .i64 0, .int .i64 0, .int .u64 0, .slice none 0 0] 33 (by simp)).below (oneB _ _), NB.rw_new ((w.alloc (.cells #[.int .i64 op, .int .u64 (cl : Int), .int .u64 (sq : Int), .int .i64 sh, .int .i64 sg, .int .u64 (ps : Int), .slice a n c] 27)).alloc (.cells #[.int .i64 0, .int .u64 0, .int .u64 0, .int .i64 0, .int .i64 0, .int .u64 0, .slice none 0 0] 33)) [Value.int .i64 op, .int .u64 (cl : Int), .int .u64 (sq : Int), .int .i64 sh, .int .i64 sg, .int .u64 (ps : Int), .slice none 0 0] 33 (by simp), ⟨rfl, .inl ⟨rfl, rfl⟩⟩, (fun k e => nomatch e), by omega, by omega, by omega, ((oneB _ _).alloc (oneB _ _).size _).alloc (by simp; omega) _⟩
  go_enter Try.func14, Try.ntmps14
  go_wp2_with fail
  generalize ((w.alloc (.cells #[.int .i64 op, .int .u64 (cl : Int), .int .u64 (sq : Int), .int .i64 sh, .int .i64 sg, .int .u64 (ps : Int), .slice a n c] 27)).alloc (.cells #[.int .i64 0, .int .u64 0, .int .u64 0, .int .i64 0, .int .i64 0, .int .u64 0, .slice none 0 0] 33)).alloc (.cells #[.int .i64 op, .int .u64 (cl : Int), .int .u64 (sq : Int), .int .i64 sh, .int .i64 sg, .int .u64 (ps : Int), .slice none 0 0] 33) = w1 at *
  go_loopw [4] (fun x wr => ∃ (i : Nat) (v : Value), i ≤ n ∧ x = .int .i64 (i : Int) ∧ CofI w w.heap.size (w.heap.size + 1) (w.heap.size + 2) [Value.int .i64 op, .int .u64 (cl : Int), .int .u64 (sq : Int), .int .i64 sh, .int .i64 sg, .int .u64 (ps : Int), .slice a n c] [Value.int .i64 0, .int .u64 0, .int .u64 0, .int .i64 0, .int .i64 0, .int .u64 0, .slice none 0 0] [Value.int .i64 op, .int .u64 (cl : Int), .int .u64 (sq : Int), .int .i64 sh, .int .i64 sg, .int .u64 (ps : Int), v] v (L.take i) wr) (fun x _ => n - (intOf x).toNat)
  case atStart => exact ⟨0, .slice none 0 0, by omega, rfl, I0⟩
  case round =>
    clear I0
    obtain ⟨i, v, hi, rfl, I⟩ := hrel
    obtain ⟨c0, c1, c2, c3, c4, c5, c6, _⟩ := NB.rw7 I.r1
    by_cases hlt : i < n
    case neg =>
      have hii : ¬ (i : Int) < (n : Int) := by omega
      obtain rfl : i = n := by omega
      obtain ⟨m0, m1, m2, m3, m4, m5, m6, _⟩ := NB.rw7 I.r3
      obtain ⟨z0, z1, z2, z3, z4, z5, z6, f0, f1, f2, f3, f4, f5, f6⟩ := NB.rw7 I.r2
      have hown := I.own
      rw [List.take_of_length_le (by have := HLN.out; omega)] at hown
      have hl9 := HLN.out
      obtain ⟨a9, k9, e9, _⟩ := NB.rd_of_own hown
      rw [hl9] at e9
      subst e9
      have r9 := (((((((I.r2.set 0 (.int .i64 op)).set 1 (.int .u64 (cl : Int))).set 2 (.int .u64 (sq : Int))).set 3 (.int .i64 sh)).set 4 (.int .i64 sg)).set 5 (.int .u64 (ps : Int))).set 6 (.slice a9 i k9))
      simp only [List.set] at r9
      have B9 : Below w.heap.size w (((((((wr.setCell ⟨w.heap.size + 1, 0, none⟩ (.int .i64 op)).setCell ⟨w.heap.size + 1, 1, none⟩ (.int .u64 (cl : Int))).setCell ⟨w.heap.size + 1, 2, none⟩ (.int .u64 (sq : Int))).setCell ⟨w.heap.size + 1, 3, none⟩ (.int .i64 sh)).setCell ⟨w.heap.size + 1, 4, none⟩ (.int .i64 sg)).setCell ⟨w.heap.size + 1, 5, none⟩ (.int .u64 (ps : Int))).setCell ⟨w.heap.size + 1, 6, none⟩ (.slice a9 i k9)) := (((((((I.bel.setCell (p := ⟨_, 0, none⟩) (by simp) (.int .i64 op)).setCell (p := ⟨_, 1, none⟩) (by simp) (.int .u64 (cl : Int))).setCell (p := ⟨_, 2, none⟩) (by simp) (.int .u64 (sq : Int))).setCell (p := ⟨_, 3, none⟩) (by simp) (.int .i64 sh)).setCell (p := ⟨_, 4, none⟩) (by simp) (.int .i64 sg)).setCell (p := ⟨_, 5, none⟩) (by simp) (.int .u64 (ps : Int))).setCell (p := ⟨_, 6, none⟩) (by simp) (.slice a9 i k9))
      have kz : Kp (fun k => k = w.heap.size + 1) wr (((((((wr.setCell ⟨w.heap.size + 1, 0, none⟩ (.int .i64 op)).setCell ⟨w.heap.size + 1, 1, none⟩ (.int .u64 (cl : Int))).setCell ⟨w.heap.size + 1, 2, none⟩ (.int .u64 (sq : Int))).setCell ⟨w.heap.size + 1, 3, none⟩ (.int .i64 sh)).setCell ⟨w.heap.size + 1, 4, none⟩ (.int .i64 sg)).setCell ⟨w.heap.size + 1, 5, none⟩ (.int .u64 (ps : Int))).setCell ⟨w.heap.size + 1, 6, none⟩ (.slice a9 i k9)) := ((((((((NB.Kp.refl (fun k => k = w.heap.size + 1) wr).setCell (x := ⟨w.heap.size + 1, 0, none⟩) (.inl rfl) (.int .i64 op)).setCell (x := ⟨w.heap.size + 1, 1, none⟩) (.inl rfl) (.int .u64 (cl : Int))).setCell (x := ⟨w.heap.size + 1, 2, none⟩) (.inl rfl) (.int .u64 (sq : Int))).setCell (x := ⟨w.heap.size + 1, 3, none⟩) (.inl rfl) (.int .i64 sh)).setCell (x := ⟨w.heap.size + 1, 4, none⟩) (.inl rfl) (.int .i64 sg)).setCell (x := ⟨w.heap.size + 1, 5, none⟩) (.inl rfl) (.int .u64 (ps : Int))).setCell (x := ⟨w.heap.size + 1, 6, none⟩) (.inl rfl) (.slice a9 i k9))
      have own9 := kz.own hown (fun k e e2 => (I.d k e).2.1 e2)
      clear kz hown
      go_wp2_with fail
      generalize (((((((wr.setCell ⟨w.heap.size + 1, 0, none⟩ (.int .i64 op)).setCell ⟨w.heap.size + 1, 1, none⟩ (.int .u64 (cl : Int))).setCell ⟨w.heap.size + 1, 2, none⟩ (.int .u64 (sq : Int))).setCell ⟨w.heap.size + 1, 3, none⟩ (.int .i64 sh)).setCell ⟨w.heap.size + 1, 4, none⟩ (.int .i64 sg)).setCell ⟨w.heap.size + 1, 5, none⟩ (.int .u64 (ps : Int))).setCell ⟨w.heap.size + 1, 6, none⟩ (.slice a9 i k9)) = w9 at *
      obtain ⟨d0, d1, d2, d3, d4, d5, d6, _⟩ := NB.rw7 r9
      have hlt9 := r9.lt
      obtain ⟨a8, k8, e8, hr9, _⟩ := NB.rd_of_own own9
      rw [hl9] at e8 hr9
      injection e8 with h8 _ h8'
      subst h8 h8'
      refine bodyPost_ret (v := .agg #[.int .i64 op, .int .u64 (cl : Int), .int .u64 (sq : Int), .int .i64 sh, .int .i64 sg, .int .u64 (ps : Int), .slice a9 i k9]) (by simp [results, Try.results14, go_sem, d0, d1, d2, d3, d4, d5, d6, hlt9]) rfl ?_
      exact ⟨a9, k9, rfl, ⟨hr9, fun x hx => (h.it x hx).below B9⟩, B9⟩
    have hii : (i : Int) < (n : Int) := by omega
    obtain ⟨b, o, x, rfl, hx, p0w, p1w, rx⟩ := (h.below I.bel).at i hlt
    have htk : L.take (i + 1) = L.take i ++ [x] := by rw [List.take_add_one, hx]; rfl
    have hlen : (L.take i).length = i := by rw [List.length_take]; have := HLN.out; omega
    have HTK := Go.Lib.hid htk; have HLEN := Go.Lib.hid hlen
    have hxb := Rd.bound rx.1
    clear htk hlen hx
    have dd := dB wr
    have J := I.below dd
    have lc := fun (b o : Nat) (v : Value) (hc : wr.cell? ⟨b, o, none⟩ = some v) => (dd.cell (p := ⟨b, o, none⟩) (World.block_lt_of_cell? wr _ hc)).trans hc
    have p0 := lc _ _ _ p0w
    have p1 := lc _ _ _ p1w
    go_wp2_with fail
    clear lc dd p0w p1w I c0 c1 c2 c3 c4 c5 c6 rx
    refine NB.wp_region_t [16, 18] (by kernel_rfl) ?_
    generalize wr.drew = w8 at *
    obtain ⟨_, _, _, _, _, _, c6, _⟩ := NB.rw7 J.r1
    obtain ⟨_, _, _, _, _, _, m6, _⟩ := NB.rw7 J.r3
    refine NB.t_p 0 rfl (by kernel_rfl) (fun K hK => ?_); go_simp; refine hK _ ?_; clear hK K
    refine NB.t_r 1 [16, 17, 18] rfl (by kernel_rfl) (by kernel_rfl) (by go_simp) _ (fun w' hw' => NB.run_op_load rfl rfl Try.underlying31 rfl m6 hw') (fun K hK => ?_); go_simp; refine hK _ ?_; clear hK K
    refine NB.t_p 2 rfl (by kernel_rfl) (fun K hK => ?_); go_simp; refine hK _ ?_; clear hK K
    refine NB.t_r 3 [5, 6, 7, 14, 15, 16, 17, 18] rfl (by kernel_rfl) (by kernel_rfl) (by go_simp) _ (fun w' hw' => NB.run_op_load rfl rfl Try.underlying25 rfl c6 hw') (fun K hK => ?_); go_simp; refine hK _ ?_; clear hK K
    refine NB.t_p 4 rfl (by kernel_rfl) (fun K hK => ?_); go_simp; refine hK _ ?_; clear hK K
    refine NB.t_p 5 rfl (by kernel_rfl) (fun K hK => ?_); go_simp; refine hK _ ?_; clear hK K
    refine NB.t_p 6 rfl (by kernel_rfl) (fun K hK => ?_); go_simp; refine hK _ ?_; clear hK K
    refine NB.t_r 7 [14, 15, 16, 17, 18] rfl (by kernel_rfl) (by kernel_rfl) (by go_simp) _ (fun w' hw' => NB.run_op_load rfl rfl Try.underlying3 rfl p0 hw') (fun K hK => ?_); go_simp; refine hK _ ?_; clear hK K
    refine NB.t_p 8 rfl (by kernel_rfl) (fun K hK => ?_); go_simp; refine hK _ ?_; clear hK K
    refine NB.t_r 9 [11, 12, 13, 14, 15, 16, 17, 18] rfl (by kernel_rfl) (by kernel_rfl) (by go_simp) _ (fun w' hw' => NB.run_op_load rfl rfl Try.underlying25 rfl c6 hw') (fun K hK => ?_); go_simp; refine hK _ ?_; clear hK K
    refine NB.t_p 10 rfl (by kernel_rfl) (fun K hK => ?_); go_simp; refine hK _ ?_; clear hK K
    refine NB.t_p 11 rfl (by kernel_rfl) (fun K hK => ?_); go_simp; refine hK _ ?_; clear hK K
    refine NB.t_p 12 rfl (by kernel_rfl) (fun K hK => ?_); go_simp; refine hK _ ?_; clear hK K
    refine NB.t_r 13 [14, 15, 16, 17, 18] rfl (by kernel_rfl) (by kernel_rfl) (by go_simp) _ (fun w' hw' => NB.run_op_load rfl rfl Try.underlying48 rfl p1 hw') (fun K hK => ?_); go_simp; refine hK _ ?_; clear hK K
    refine NB.t_p 14 rfl (by kernel_rfl) (fun K hK => ?_); go_simp; refine hK _ ?_; clear hK K
    refine NB.t_e 15 rfl (by kernel_rfl) (by kernel_rfl) (fun K hK => ?_); unfold NB.tmoves; go_simp; refine ⟨oneB _ _, hK _ _ ?_⟩; clear hK K
    refine NB.t_w 16 rfl (by kernel_rfl) (by kernel_rfl) rfl (fun Q' hK => ?_)
    have own2 := NB.own_keep J.own (oneB w8 (.cells #[.int .i64 x.s, .slice x.a x.n x.c] 78))
    rw [HLEN.out] at own2
    have J2 := J.below (oneB w8 (.cells #[.int .i64 x.s, .slice x.a x.n x.c] 78))
    refine NB.wpList_append_at rfl (.tmp 26) (.tmp 40) 31 rfl w.heap.size slTW2 _ i (iwsV (L.take i)) rfl own2 _ 1 1 (iwV x) rfl (iw_rd w8 x.s x.a x.n x.c x.l _ rfl) (iw_one _) (by omega) (by unfold maxLen; omega) J2.bel.size ?_
    intro v6 w6 ho6 hg6 hv6
    refine hK _ _ ?_
    clear hK Q'
    obtain ⟨J6, r6⟩ := J2.app x hg6 (by rw [HLEN.out]; exact ho6) hv6
    simp only [List.set] at J6
    have HJ := Go.Lib.hid J6
    obtain ⟨_, _, _, _, _, _, t6, _, _, _, _, _, _, s6⟩ := NB.rw7 r6
    obtain ⟨a6, k6, rfl, _⟩ := NB.rd_of_own ho6
    clear J J2 J6 own2 r6 ho6 hg6 hv6 c6 m6
    refine NB.t_p 17 rfl (by kernel_rfl) (fun K hK => ?_); go_simp; refine hK _ ?_; clear hK K
    refine NB.t_w 18 rfl (by kernel_rfl) (by kernel_rfl) rfl (fun Q' hK => ?_)
    go_wp2_with fail
    refine NB.t_end (by kernel_rfl) ?_
    go_wp2_with fail
    go_roundw
    case rel => exact ⟨i + 1, _, by omega, by go_num, by rw [HTK.out]; exact HJ.out⟩
    case measure => simp [intOf]; omega
end Go.Proofs.Ytnkmlopgfgdajaa
