/- The reference on disks, walked: a sync. -/
import Derived.Test.YtcdapjfaekamkaaRfc
import Derived.Test.YtcdapjfaekamkaaAny
namespace Go.Proofs.Ytcdapjfaekamkaa
open Go.RowKit
open Go.NB (Rd Dk Kp Stp Off Dis)

theorem lay_take (ws : List (Nat × List UInt8)) (l : List (List UInt8)) (k i : Nat) (b : List UInt8) (h : ws[k]? = some (i, b)) : Dk.lay l (ws.take (k + 1)) = (Dk.lay l (ws.take k)).set i b := by
  obtain ⟨hk, e⟩ := List.getElem?_eq_some_iff.1 h
  unfold Dk.lay
  rw [List.take_succ_eq_append_getElem hk, e, List.foldl_append]
  rfl
/-- A disk of the reference. -/
def RefD (w : World) (v : Value) (D : Dk) : Prop := ∃ a1 c1 a2 c2, v = rdV a1 D.l.length c1 a2 D.waits.length c2 D.left D.down ∧ Rd 1 w a1 D.l.length c1 (strsL D.l) ∧ Rd 2 w a2 D.waits.length c2 (wsL D.waits)
theorem RefD.below {w w' : World} {v : Value} {D : Dk} (h : RefD w v D) (hb : Below w.heap.size w w') : RefD w' v D := by
  obtain ⟨a1, c1, a2, c2, e, h1, h2⟩ := h
  exact ⟨a1, c1, a2, c2, e, Rd.below h1 hb, Rd.below h2 hb⟩
/-- The blocks that a disk of the reference lies in. -/
def locR (v : Value) (k : Nat) : Prop := ∃ a1 n1 c1 a2 n2 c2 l d o, v = rdV a1 n1 c1 a2 n2 c2 l d ∧ ((a1 = some ⟨k, o, none⟩ ∧ 0 < n1) ∨ (a2 = some ⟨k, o, none⟩ ∧ 0 < n2))
def DidR (w : World) (v0 : Value) (r : Dk × Int) (e : Ending) (w' : World) : Prop := ∃ v, e = .returned (.tuple #[v, .int .i64 r.2]) ∧ RefD w' v r.1 ∧ Below w.heap.size w w' ∧ ∀ k, locR v k → locR v0 k ∨ w.heap.size ≤ k
theorem loc_of {v0 : Value} {a1 a2 : Option Addr} {n1 c1 n2 c2 : Nat} {l : Int} {d : Bool} {B : Nat} (h1 : ∀ k o, a1 = some ⟨k, o, none⟩ → 0 < n1 → locR v0 k ∨ B ≤ k) (h2 : ∀ k o, a2 = some ⟨k, o, none⟩ → 0 < n2 → locR v0 k ∨ B ≤ k) (k : Nat) (h : locR (rdV a1 n1 c1 a2 n2 c2 l d) k) : locR v0 k ∨ B ≤ k := by
  obtain ⟨b1, m1, e1, b2, m2, e2, l2, d2, o, e, h⟩ := h
  simp only [rdV, Value.agg.injEq, Array.mk.injEq, List.cons.injEq, Value.slice.injEq] at e
  obtain ⟨⟨rfl, rfl, _⟩, ⟨rfl, rfl, _⟩, _⟩ := e
  exact h.elim (fun h => h1 k o h.1 h.2) (fun h => h2 k o h.1 h.2)
theorem loc_1 {a1 a2 : Option Addr} {n1 c1 n2 c2 : Nat} {l : Int} {d : Bool} (k o : Nat) (h : a1 = some ⟨k, o, none⟩) (hn : 0 < n1) : locR (rdV a1 n1 c1 a2 n2 c2 l d) k := ⟨_, _, _, _, _, _, _, _, o, rfl, .inl ⟨h, hn⟩⟩
theorem loc_2 {a1 a2 : Option Addr} {n1 c1 n2 c2 : Nat} {l : Int} {d : Bool} (k o : Nat) (h : a2 = some ⟨k, o, none⟩) (hn : 0 < n2) : locR (rdV a1 n1 c1 a2 n2 c2 l d) k := ⟨_, _, _, _, _, _, _, _, o, rfl, .inr ⟨h, hn⟩⟩
theorem loc_same {a1 a2 : Option Addr} {n1 c1 n2 c2 c1' c2' : Nat} {l l' : Int} {d d' : Bool} (k : Nat) (h : locR (rdV a1 n1 c1 a2 n2 c2 l d) k) : locR (rdV a1 n1 c1' a2 n2 c2' l' d') k := by
  obtain ⟨b1, m1, e1, b2, m2, e2, l2, d2, o, e, h⟩ := h
  simp only [rdV, Value.agg.injEq, Array.mk.injEq, List.cons.injEq, Value.slice.injEq] at e
  obtain ⟨⟨rfl, rfl, _⟩, ⟨rfl, rfl, _⟩, _⟩ := e
  exact ⟨_, _, _, _, _, _, _, _, o, rfl, h⟩
theorem rd_low {w : World} {size : Nat} {a : Option Addr} {n c : Nat} {vs : List Value} (h : Rd size w a n c vs) (b o : Nat) (e : a = some ⟨b, o, none⟩) (hn : vs ≠ []) : b < w.heap.size := by
  obtain ⟨x, t, rfl⟩ := List.exists_cons_of_ne_nil hn
  exact World.block_lt_of_cell? _ _ (h.cell b o e 0 x rfl)

set_option maxRecDepth 100000 in
set_option maxHeartbeats 4000000 in
theorem rsync_any (w : World) (v : Value) (D : Dk) (h : RefD w v D) (hl : -1 ≤ D.left) (hl2 : D.left ≤ 9223372036854775807) (hln : D.l.length ≤ 65536) (hw : D.waits.length ≤ 100000) (hwi : ∀ x ∈ D.waits, x.1 < D.l.length) :
    Calls Try.prog 39 #[v] w (DidR w v D.sync) := by
  obtain ⟨a1, c1, a2, c2, rfl, h1, h2⟩ := h
  have hco := fun w => rcounts_any w a1 D.l.length c1 a2 D.waits.length c2 D hl hl2
  have hq : D.sync = if D.down then (D, 20) else if D.left = 0 then ({ D with down := true }, 20) else ({ D with left := max (D.left - 1) (-1), l := Dk.lay D.l D.waits, waits := [] }, 0) := rfl
  rw [hq]
  clear hq
  obtain ⟨l, waits, left, down⟩ := D
  have T := two_rw w (.slice a1 l.length c1) (.slice a2 waits.length c2) (.int .i64 left) (.bool down) (.slice none 0 0) (.slice none 0 0) (.int .i64 0) (.bool false) 49 49
  simp only at *
  have hbd1 := h1.bound
  have hbd2 := h2.bound
  cases down with
  | true =>
    rw [if_pos rfl]
    clear hco
    unfold rdV at *
    go_enter Try.func39, Try.ntmps39
    go_wp2
    exact bodyPost_ret (v := .tuple #[rdV a1 l.length c1 a2 waits.length c2 left true, .int .i64 20]) (by simp [results, Try.results39, go_sem, rdV]) rfl ⟨_, rfl, ⟨a1, c1, a2, c2, rfl, Rd.below h1 (twoB _ _ _), Rd.below h2 (twoB _ _ _)⟩, twoB _ _ _, fun k h => .inl (loc_same k h)⟩
  | false =>
  rw [if_neg (by simp)]
  by_cases h0 : left = 0
  · subst h0
    rw [if_pos rfl]
    have hc : (⟨l, waits, 0, false⟩ : Dk).counts = (⟨l, waits, 0, true⟩, 20) := rfl
    rw [hc] at hco
    simp only at hco
    have HCO := Go.Lib.hid hco
    clear hco hc
    unfold rdV at *
    go_enter Try.func39, Try.ntmps39
    go_wp2_with fail
    refine (HCO.out _).mono ?_
    rintro e w4 ⟨rfl, hb4⟩
    have B4 := bel (twoB w _ _) hb4 (twoB w _ _).size
    have R14 := T.1.below hb4
    have R24 := T.2.below hb4
    obtain ⟨x0, x1, x2, x3, u0, u1, u2, u3⟩ := rw4 R14
    obtain ⟨y0, y1, y2, y3, v0, v1, v2, v3⟩ := rw4 R24
    have hz := R24.lt
    clear T hb4
    go_wp2_with fail
    have BF : ∀ w9 : World, Below w.heap.size w w9 → RefD w9 (rdV a1 l.length c1 a2 waits.length c2 0 true) ⟨l, waits, 0, true⟩ := fun w9 hb => ⟨a1, c1, a2, c2, rfl, Rd.below h1 hb, Rd.below h2 hb⟩
    refine bodyPost_ret (v := .tuple #[rdV a1 l.length c1 a2 waits.length c2 0 true, .int .i64 20]) (by simp [results, Try.results39, go_sem, y0, y1, y2, y3, hz, rdV]) rfl ⟨_, rfl, BF _ ?_, ?_, fun k h => .inl (loc_same k h)⟩
    all_goals (iterate 8 refine Below.setCell ?_ (by simp) _)
    all_goals exact B4
  rw [if_neg h0]
  have hc : (⟨l, waits, left, false⟩ : Dk).counts = (⟨l, waits, max (left - 1) (-1), false⟩, 0) := by simp only [Dk.counts, h0, if_false]
  rw [hc] at hco
  generalize max (left - 1) (-1) = L at *
  simp only at hco
  have HCO := Go.Lib.hid hco
  clear hco hc h0
  unfold rdV at *
  go_enter Try.func39, Try.ntmps39
  go_wp2_with fail
  refine (HCO.out _).mono ?_
  rintro e w4 ⟨rfl, hb4⟩
  have B4 := bel (twoB w _ _) hb4 (twoB w _ _).size
  have R14 := T.1.below hb4
  have R24 := T.2.below hb4
  clear T hb4
  obtain ⟨x0, x1, x2, x3, u0, u1, u2, u3⟩ := rw4 R14
  have R15 : Rw ((((w4.setCell ⟨w.heap.size, 0, none⟩ (.slice a1 l.length c1)).setCell ⟨w.heap.size, 1, none⟩ (.slice a2 waits.length c2)).setCell ⟨w.heap.size, 2, none⟩ (.int .i64 L)).setCell ⟨w.heap.size, 3, none⟩ (.bool false)) w.heap.size [.slice a1 l.length c1, .slice a2 waits.length c2, .int .i64 L, .bool false] 49 := (((R14.set 0 _).set 1 _).set 2 _).set 3 _
  have R25 := (((R24.other (g' := w.heap.size) (by omega) 0 (.slice a1 l.length c1)).other (g' := w.heap.size) (by omega) 1 (.slice a2 waits.length c2)).other (g' := w.heap.size) (by omega) 2 (.int .i64 L)).other (g' := w.heap.size) (by omega) 3 (.bool false)
  have B5 : Below w.heap.size w ((((w4.setCell ⟨w.heap.size, 0, none⟩ (.slice a1 l.length c1)).setCell ⟨w.heap.size, 1, none⟩ (.slice a2 waits.length c2)).setCell ⟨w.heap.size, 2, none⟩ (.int .i64 L)).setCell ⟨w.heap.size, 3, none⟩ (.bool false)) := (((B4.setCell (p := ⟨w.heap.size, 0, none⟩) (Nat.le_refl _) _).setCell (p := ⟨w.heap.size, 1, none⟩) (Nat.le_refl _) _).setCell (p := ⟨w.heap.size, 2, none⟩) (Nat.le_refl _) _).setCell (p := ⟨w.heap.size, 3, none⟩) (Nat.le_refl _) _
  go_wp2_with fail
  generalize ((((w4.setCell ⟨w.heap.size, 0, none⟩ (.slice a1 l.length c1)).setCell ⟨w.heap.size, 1, none⟩ (.slice a2 waits.length c2)).setCell ⟨w.heap.size, 2, none⟩ (.int .i64 L)).setCell ⟨w.heap.size, 3, none⟩ (.bool false)) = w5 at *
  have h15 := Rd.below h1 B5
  have hlow := rd_low h1
  clear x0 x1 x2 x3 u0 u1 u2 u3 R14 R24 B4 h1
  go_loopw [5] (fun x wr => ∃ (k : Nat) (a : Option Addr) (c : Nat), k ≤ waits.length ∧ x = .int .i64 k ∧ Rw wr w.heap.size [.slice a l.length c, .slice a2 waits.length c2, .int .i64 L, .bool false] 49 ∧ Rw wr (w.heap.size + 1) [.slice none 0 0, .slice none 0 0, .int .i64 0, .bool false] 49 ∧ Rd 1 wr a l.length c (strsL (Dk.lay l (waits.take k))) ∧ (∀ b o, a = some ⟨b, o, none⟩ → strsL (Dk.lay l (waits.take k)) ≠ [] → b ≠ w.heap.size ∧ b ≠ w.heap.size + 1) ∧ Below w.heap.size w wr ∧ (a = a1 ∨ ∀ b o, a = some ⟨b, o, none⟩ → w.heap.size ≤ b)) (fun x _ => waits.length - (intOf x).toNat)
  case atStart => exact ⟨0, a1, c1, by omega, rfl, R15, R25, h15, fun b o e hn => by have := hlow b o e hn; omega, B5, .inl rfl⟩
  case round =>
    clear R15 R25 h15 B5 hlow
    obtain ⟨k, a, c, hk, rfl, R1, R2, hr1, hnf, hB, hloc⟩ := hrel
    have hbd := hr1.bound
    have hXl : (Dk.lay l (waits.take k)).length = l.length := lay_len _ _
    by_cases hlt : k < waits.length
    · obtain ⟨j, b, hjb⟩ : ∃ j b, waits[k]? = some (j, b) := ⟨_, _, List.getElem?_eq_getElem hlt⟩
      have hjl : j < l.length := hwi (j, b) (List.mem_of_getElem? hjb)
      have hls := lay_take waits l k j b hjb
      have HLS := Go.Lib.hid hls
      clear hls
      generalize Dk.lay l (waits.take k) = X at *
      have x1 := R1.cell 1 _ rfl
      have hki : (k : Int) < (waits.length : Int) := by omega
      go_wp2_with fail
      clear x1 hki
      refine NB.wp_region_t [16] (by kernel_rfl) ?_
      have R16 := R1.below (Below.refl _ wr).drew
      have R26 := R2.below (Below.refl _ wr).drew
      have h16 := Rd.below hr1 (Below.refl _ wr).drew
      have B6 : Below w.heap.size w wr.drew := hB.drew
      generalize wr.drew = w6 at *
      have h26 := Rd.below h2 B6
      obtain ⟨b2, o2, rfl, hc2⟩ := Rd.pos h26 (by omega)
      have q2 : w6.cell? ⟨b2, o2 + k * 2, none⟩ = some (.int .i64 (j : Int)) := hc2 _ _ (ws_at waits k _ hjb).1
      have q3 : w6.cell? ⟨b2, o2 + k * 2 + 1, none⟩ = some (.string ⟨b.toArray⟩) := by have := hc2 _ _ (ws_at waits k _ hjb).2; rwa [← Nat.add_assoc] at this
      have x0 := R16.cell 0 _ rfl
      have x1 := R16.cell 1 _ rfl
      have hki : (k : Int) < (waits.length : Int) := by omega
      have hjb' := Go.Lib.hid hjb
      clear hc2 hjb
      refine NB.t_p 0 rfl (by kernel_rfl) (fun K hK => ?_); go_simp; refine hK _ ?_; clear hK K
      refine NB.t_r 1 [14, 15, 16] rfl (by kernel_rfl) (by kernel_rfl) rfl _ (fun w' hw' => NB.run_op_load rfl rfl Try.underlying38 rfl (x0) hw') (fun K hK => ?_); go_simp; refine hK _ ?_; clear hK K
      refine NB.t_p 2 rfl (by kernel_rfl) (fun K hK => ?_); go_simp; refine hK _ ?_; clear hK K
      refine NB.t_r 3 [5, 6, 7, 14, 15, 16] rfl (by kernel_rfl) (by kernel_rfl) rfl _ (fun w' hw' => NB.run_op_load rfl rfl Try.underlying47 rfl (x1) hw') (fun K hK => ?_); go_simp; refine hK _ ?_; clear hK K
      refine NB.t_p 4 rfl (by kernel_rfl) (fun K hK => ?_); go_simp; refine hK _ ?_; clear hK K
      refine NB.t_p 5 rfl (by kernel_rfl) (fun K hK => ?_); go_simp; refine hK _ ?_; clear hK K
      refine NB.t_p 6 rfl (by kernel_rfl) (fun K hK => ?_); go_simp; refine hK _ ?_; clear hK K
      refine NB.t_r 7 [14, 15, 16] rfl (by kernel_rfl) (by kernel_rfl) rfl _ (fun w' hw' => NB.run_op_load rfl rfl Try.underlying3 rfl (q2) hw') (fun K hK => ?_); go_simp; refine hK _ ?_; clear hK K
      refine NB.t_p 8 rfl (by kernel_rfl) (fun K hK => ?_); go_simp; refine hK _ ?_; clear hK K
      refine NB.t_r 9 [11, 12, 13, 14, 15, 16] rfl (by kernel_rfl) (by kernel_rfl) rfl _ (fun w' hw' => NB.run_op_load rfl rfl Try.underlying47 rfl (x1) hw') (fun K hK => ?_); go_simp; refine hK _ ?_; clear hK K
      refine NB.t_p 10 rfl (by kernel_rfl) (fun K hK => ?_); go_simp; refine hK _ ?_; clear hK K
      refine NB.t_p 11 rfl (by kernel_rfl) (fun K hK => ?_); go_simp; refine hK _ ?_; clear hK K
      refine NB.t_p 12 rfl (by kernel_rfl) (fun K hK => ?_); go_simp; refine hK _ ?_; clear hK K
      refine NB.t_r 13 [14, 15, 16] rfl (by kernel_rfl) (by kernel_rfl) rfl _ (fun w' hw' => NB.run_op_load rfl rfl Try.underlying9 rfl (q3) hw') (fun K hK => ?_); go_simp; refine hK _ ?_; clear hK K
      refine NB.t_e 14 rfl (by kernel_rfl) (by kernel_rfl) (fun K hK => ?_); unfold NB.tmoves; go_simp; refine (rput_any _ _ _ _ X h16 j (by omega) b (by omega)).mono ?_; rintro e w7 ⟨a7, c7, rfl, hr7, hb7, hlo7⟩; refine ⟨_, rfl, hb7, hK _ _ ?_⟩; clear hK K
      have R17 := R16.below hb7
      have R27 := R26.below hb7
      have B7 := bel B6 hb7 B6.size
      refine NB.t_p 15 rfl (by kernel_rfl) (fun K hK => ?_); go_simp; refine hK _ ?_; clear hK K
      refine NB.t_w 16 rfl (by kernel_rfl) (by kernel_rfl) rfl (fun Q' hK => ?_)
      have x0 := R17.cell 0 _ rfl
      have u0 := R17.free 0
      go_wp2_with fail
      refine NB.t_end (by kernel_rfl) ?_
      have hsz7 := R27.lt
      have hsz6 := R26.lt
      have KF : Kp (fun k => k = w.heap.size) w7 (w7.setCell ⟨w.heap.size, 0, none⟩ (.slice a7 l.length c7)) := (Kp.refl (fun k => k = w.heap.size) w7).setCell (x := ⟨w.heap.size, 0, none⟩) (.inl rfl) _
      have hrF := KF.rd hr7 (fun b o e _ h => by have := hlo7 b o e; omega)
      have RF1 := R17.set 0 (.slice a7 l.length c7)
      have RF2 := R27.other (g' := w.heap.size) (by omega) 0 (.slice a7 l.length c7)
      have BF : Below w.heap.size w (w7.setCell ⟨w.heap.size, 0, none⟩ (.slice a7 l.length c7)) := B7.setCell (p := ⟨w.heap.size, 0, none⟩) (Nat.le_refl _) _
      go_wp2_with fail
      exact ⟨⟨k + 1, a7, c7, by omega, by simp, RF1, RF2, by rw [HLS.out]; exact hrF, fun b o e _ => by have := hlo7 b o e; omega, BF, .inr fun b o e => by have := hlo7 b o e; have := B6.size; omega⟩, by simp [intOf]; omega⟩
    · obtain rfl : k = waits.length := by omega
      rw [List.take_length] at hr1 hnf hXl
      obtain ⟨x0, x1, x2, x3, u0, u1, u2, u3⟩ := rw4 R1
      obtain ⟨y0, y1, y2, y3, v0, v1, v2, v3⟩ := rw4 R2
      have hz := R2.lt
      go_wp2_with fail
      have KF : Kp (fun k => k = w.heap.size ∨ k = w.heap.size + 1) wr (((((wr.setCell ⟨w.heap.size, 1, none⟩ (.slice none 0 0)).setCell ⟨w.heap.size + 1, 0, none⟩ (.slice a l.length c)).setCell ⟨w.heap.size + 1, 1, none⟩ (.slice none 0 0)).setCell ⟨w.heap.size + 1, 2, none⟩ (.int .i64 L)).setCell ⟨w.heap.size + 1, 3, none⟩ (.bool false)) :=
        (((((Kp.refl _ wr).setCell (x := ⟨w.heap.size, 1, none⟩) (.inl (.inl rfl)) _).setCell (x := ⟨w.heap.size + 1, 0, none⟩) (.inl (.inr rfl)) _).setCell (x := ⟨w.heap.size + 1, 1, none⟩) (.inl (.inr rfl)) _).setCell (x := ⟨w.heap.size + 1, 2, none⟩) (.inl (.inr rfl)) _).setCell (x := ⟨w.heap.size + 1, 3, none⟩) (.inl (.inr rfl)) _
      have hrF := KF.rd hr1 (fun b o e hn h => by
        have := hnf b o e hn
        rcases h with h | h <;> omega)
      refine bodyPost_ret (v := .tuple #[rdV a l.length c none 0 0 L false, .int .i64 0]) (by simp [results, Try.results39, go_sem, y0, y1, y2, y3, hz, rdV]) rfl ⟨_, rfl, ⟨a, c, none, 0, ?_, ?_, NB.Rd.nil_mk⟩, ?_, loc_of (fun k o e hn => hloc.elim (fun h => .inl (loc_1 k o (h ▸ e) hn)) (fun h => .inr (h k o e))) (fun k o e => nomatch e)⟩
      · simp only [hXl]; rfl
      · simp only [hXl]; exact hrF
      · iterate 5 refine Below.setCell ?_ (by simp) _
        exact hB
end Go.Proofs.Ytcdapjfaekamkaa
