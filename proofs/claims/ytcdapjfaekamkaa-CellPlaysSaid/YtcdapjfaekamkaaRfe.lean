/- The reference on disks, walked: a crash. -/
import Derived.Test.YtcdapjfaekamkaaRfd
namespace Go.Proofs.Ytcdapjfaekamkaa
open Go.RowKit
open Go.NB (Rd Dk Kp Stp Off Dis)

theorem tears_nil (l : List (List UInt8)) (ws : List (Nat × List UInt8)) : Dk.tears l ws [] = l := by cases ws <;> rfl
theorem tears_out (ws : List (Nat × List UInt8)) : ∀ (l : List (List UInt8)) (pick : List UInt8) (k : Nat), pick.length ≤ k → Dk.tears l (ws.take k) pick = Dk.tears l ws pick := by
  induction ws with
  | nil => intro l pick k h; simp
  | cons x ws ih =>
    intro l pick k h
    cases pick with
    | nil => rw [tears_nil, tears_nil]
    | cons c pick =>
      obtain ⟨m, rfl⟩ : ∃ m, k = m + 1 := ⟨k - 1, by simp at h; omega⟩
      exact ih (Dk.tear l x (c.toNat % 65)) pick m (by simpa using h)
theorem tears_64 (ws : List (Nat × List UInt8)) : ∀ (l : List (List UInt8)) (pick : List UInt8), (∀ b ∈ l, b.length = 64) → (∀ x ∈ ws, x.2.length = 64 ∧ x.1 < l.length) → ∀ b ∈ Dk.tears l ws pick, b.length = 64 := by
  induction ws with
  | nil => intro l pick h _; exact h
  | cons x ws ih =>
    intro l pick h hw
    cases pick with
    | nil => exact h
    | cons c pick =>
      have hx := hw x List.mem_cons_self
      refine ih (Dk.tear l x (c.toNat % 65)) pick (fun b hb => ?_) (fun y hy => by have := hw y (List.mem_cons_of_mem _ hy); simpa [Dk.tear] using this)
      have hg : (l.getD x.1 []).length = 64 := by
        rw [List.getD_eq_getElem?_getD, List.getElem?_eq_getElem hx.2]; exact h _ (List.getElem_mem hx.2)
      rcases List.mem_or_eq_of_mem_set hb with hb | rfl
      · exact h b hb
      · rw [List.length_append, List.length_take, List.length_drop, hx.1, hg]; omega
def GaveR (w : World) (v0 : Value) (D : Dk) (e : Ending) (w' : World) : Prop := ∃ v, e = .returned v ∧ RefD w' v D ∧ Below w.heap.size w w' ∧ ∀ k, locR v k → locR v0 k ∨ w.heap.size ≤ k

set_option maxRecDepth 100000 in
set_option maxHeartbeats 4000000 in
theorem rcrash_any (w : World) (v : Value) (D : Dk) (pick : List UInt8) (h : RefD w v D) (hln : D.l.length ≤ 65536) (hw : D.waits.length ≤ 100000) (h64 : ∀ b ∈ D.l, b.length = 64) (hwi : ∀ x ∈ D.waits, x.2.length = 64 ∧ x.1 < D.l.length) (hpl : pick.length ≤ 1000000) :
    Calls Try.prog 25 #[v, strL pick] w (GaveR w v (D.crash pick)) := by
  obtain ⟨a1, c1, a2, c2, rfl, h1, h2⟩ := h
  obtain ⟨l, waits, left, down⟩ := D
  have T := two_rw w (.slice a1 l.length c1) (.slice a2 waits.length c2) (.int .i64 left) (.bool down) (.slice none 0 0) (.slice none 0 0) (.int .i64 0) (.bool false) 49 49
  simp only at *
  have hbd1 := h1.bound
  have hbd2 := h2.bound
  unfold rdV strL at *
  go_enter Try.func25, Try.ntmps25
  go_wp2_with fail
  have B5 := twoB w (.cells #[.slice a1 l.length c1, .slice a2 waits.length c2, .int .i64 left, .bool down] 49) (.cells #[.slice none 0 0, .slice none 0 0, .int .i64 0, .bool false] 49)
  generalize (w.alloc (.cells #[.slice a1 l.length c1, .slice a2 waits.length c2, .int .i64 left, .bool down] 49)).alloc (.cells #[.slice none 0 0, .slice none 0 0, .int .i64 0, .bool false] 49) = w3 at *
  obtain ⟨R15, R25⟩ := T
  have h15 := Rd.below h1 B5
  have hlow := rd_low h1
  clear h1
  go_loopw [5] (fun x wr => ∃ (k : Nat) (a : Option Addr) (c : Nat), k ≤ waits.length ∧ k ≤ pick.length ∧ x = .int .i64 k ∧ Rw wr w.heap.size [.slice a l.length c, .slice a2 waits.length c2, .int .i64 left, .bool down] 49 ∧ Rw wr (w.heap.size + 1) [.slice none 0 0, .slice none 0 0, .int .i64 0, .bool false] 49 ∧ Rd 1 wr a l.length c (strsL (Dk.tears l (waits.take k) pick)) ∧ (∀ b o, a = some ⟨b, o, none⟩ → strsL (Dk.tears l (waits.take k) pick) ≠ [] → b ≠ w.heap.size ∧ b ≠ w.heap.size + 1) ∧ Below w.heap.size w wr ∧ (a = a1 ∨ ∀ b o, a = some ⟨b, o, none⟩ → w.heap.size ≤ b)) (fun x _ => waits.length - (intOf x).toNat)
  case atStart => exact ⟨0, a1, c1, by omega, by omega, rfl, R15, R25, h15, fun b o e hn => by have := hlow b o e hn; omega, B5, .inl rfl⟩
  case round =>
    clear R15 R25 h15 B5 hlow
    obtain ⟨k, a, c, hk, hkp, rfl, R1, R2, hr1, hnf, hB, hloc⟩ := hrel
    have hbd := hr1.bound
    have hXl : (Dk.tears l (waits.take k) pick).length = l.length := NB.tears_len _ _ _
    have hX64 := tears_64 (waits.take k) l pick h64 (fun x hx => hwi x (List.mem_of_mem_take hx))
    have h2r := Rd.below h2 hB
    by_cases hlt : k < waits.length ∧ k < pick.length
    · obtain ⟨hlt, hlp⟩ := hlt
      obtain ⟨j, b, hjb⟩ : ∃ j b, waits[k]? = some (j, b) := ⟨_, _, List.getElem?_eq_getElem hlt⟩
      obtain ⟨hb64, hjl⟩ : b.length = 64 ∧ j < l.length := hwi (j, b) (List.mem_of_getElem? hjb)
      have hls := NB.tears_succ waits l pick k _ hjb
      rw [if_pos hlp, Dk.tear] at hls
      have HLS := Go.Lib.hid hls
      clear hls
      generalize Dk.tears l (waits.take k) pick = X at *
      have hg : (X.getD j []).length = 64 := by
        rw [List.getD_eq_getElem?_getD, List.getElem?_eq_getElem (by omega)]; exact hX64 _ (List.getElem_mem (by omega))
      obtain ⟨b2, o2, rfl, hc2⟩ := Rd.pos h2r (by omega)
      have q2 : wr.cell? ⟨b2, o2 + k * 2, none⟩ = some (.int .i64 (j : Int)) := hc2 _ _ (ws_at waits k _ hjb).1
      have q3 : wr.cell? ⟨b2, o2 + k * 2 + 1, none⟩ = some (.string ⟨b.toArray⟩) := by have := hc2 _ _ (ws_at waits k _ hjb).2; rwa [← Nat.add_assoc] at this
      have x1 := R1.cell 1 _ rfl
      have hki : (k : Int) < (waits.length : Int) := by omega
      have hkpi : (k : Int) < (pick.length : Int) := by omega
      have hks : k < (⟨pick.toArray⟩ : ByteArray).size := by show k < pick.toArray.size; simpa using hlp
      have hyk : pick.getD k 0 = (⟨pick.toArray⟩ : ByteArray)[k]'hks := by rw [List.getD_eq_getElem?_getD, List.getElem?_eq_getElem hlp]; rfl
      have hyN := mod65 ((⟨pick.toArray⟩ : ByteArray)[k]'hks)
      rw [← hyk] at hyN
      obtain ⟨N, hN⟩ : ∃ N, (pick.getD k 0).toNat % 65 = N := ⟨_, rfl⟩
      have hls := HLS.out
      obtain ⟨Y, hY⟩ : ∃ Y, X.getD j [] = Y := ⟨_, rfl⟩
      simp only [hN, hY] at hls
      rw [hN] at hyN
      rw [hyk] at hyN
      rw [hY] at hg
      clear HLS
      have HLS := Go.Lib.hid hls
      have HY := Go.Lib.hid hY
      have hN64 : N ≤ 64 := by omega
      have hYt : Y.take 64 = Y := List.take_of_length_le (by omega)
      have hN64i : (N : Int) ≤ 64 := by omega
      clear hls hY hyk hN
      have hsz := R2.lt
      go_wp2_with fail
      have W5 : Rw (wr.alloc (.cells #[.int .i64 (j : Int), .string ⟨b.toArray⟩] 93)) wr.heap.size [.int .i64 (j : Int), .string ⟨b.toArray⟩] 93 := rw_new wr [.int .i64 (j : Int), .string ⟨b.toArray⟩] _ rfl
      have hwb := oneB wr (.cells #[.int .i64 (j : Int), .string ⟨b.toArray⟩] 93)
      have B5 := bel hB hwb hB.size
      have hr5 := Rd.below hr1 hwb
      replace R1 := R1.below hwb
      replace R2 := R2.below hwb
      generalize hgq : wr.heap.size = gq at *
      generalize wr.alloc (.cells #[.int .i64 (j : Int), .string ⟨b.toArray⟩] 93) = w5 at *
      clear x1 q2 q3 hc2 h2r hr1 hB hwb
      refine NB.wp_region_t [19] (by kernel_rfl) ?_
      have R16 := R1.below (Below.refl _ w5).drew
      have R26 := R2.below (Below.refl _ w5).drew
      have W6 := W5.below (Below.refl _ w5).drew
      have h16 := Rd.below hr5 (Below.refl _ w5).drew
      have B6 : Below w.heap.size w w5.drew := B5.drew
      generalize w5.drew = w6 at *
      have x0 := R16.cell 0 _ rfl
      have m0 := W6.cell 0 _ rfl
      have m1 := W6.cell 1 _ rfl
      obtain ⟨b1, o1, rfl, hc1⟩ := Rd.pos h16 (by omega)
      have q4 : w6.cell? ⟨b1, o1 + j, none⟩ = some (.string ⟨Y.toArray⟩) := by have h := hc1 j _ (strs_at X j (by omega)); rw [HY.out] at h; exact h
      clear hc1
      refine NB.t_p 0 rfl (by kernel_rfl) (fun K hK => ?_); go_simp; refine hK _ ?_; clear hK K
      refine NB.t_r 1 [17, 18, 19] rfl (by kernel_rfl) (by kernel_rfl) rfl _ (fun w' hw' => NB.run_op_load rfl rfl Try.underlying38 rfl (x0) hw') (fun K hK => ?_); go_simp; refine hK _ ?_; clear hK K
      refine NB.t_p 2 rfl (by kernel_rfl) (fun K hK => ?_); go_simp; refine hK _ ?_; clear hK K
      refine NB.t_r 3 [17, 18, 19] rfl (by kernel_rfl) (by kernel_rfl) rfl _ (fun w' hw' => NB.run_op_load rfl rfl Try.underlying3 rfl (m0) hw') (fun K hK => ?_); go_simp; refine hK _ ?_; clear hK K
      refine NB.t_p 4 rfl (by kernel_rfl) (fun K hK => ?_); go_simp; refine hK _ ?_; clear hK K
      refine NB.t_r 5 [7, 16, 17, 18, 19] rfl (by kernel_rfl) (by kernel_rfl) rfl _ (fun w' hw' => NB.run_op_load rfl rfl Try.underlying9 rfl (m1) hw') (fun K hK => ?_); go_simp; refine hK _ ?_; clear hK K
      refine NB.t_p 6 rfl (by kernel_rfl) (fun K hK => ?_); go_simp; refine hK _ ?_; clear hK K
      refine NB.t_p 7 rfl (by kernel_rfl) (fun K hK => ?_); go_simp; refine hK _ ?_; clear hK K
      refine NB.t_p 8 rfl (by kernel_rfl) (fun K hK => ?_); go_simp; refine hK _ ?_; clear hK K
      refine NB.t_r 9 [12, 13, 15, 16, 17, 18, 19] rfl (by kernel_rfl) (by kernel_rfl) rfl _ (fun w' hw' => NB.run_op_load rfl rfl Try.underlying38 rfl (x0) hw') (fun K hK => ?_); go_simp; refine hK _ ?_; clear hK K
      refine NB.t_p 10 rfl (by kernel_rfl) (fun K hK => ?_); go_simp; refine hK _ ?_; clear hK K
      refine NB.t_r 11 [12, 13, 15, 16, 17, 18, 19] rfl (by kernel_rfl) (by kernel_rfl) rfl _ (fun w' hw' => NB.run_op_load rfl rfl Try.underlying3 rfl (m0) hw') (fun K hK => ?_); go_simp; refine hK _ ?_; clear hK K
      refine NB.t_p 12 rfl (by kernel_rfl) (fun K hK => ?_); go_simp; refine hK _ ?_; clear hK K
      refine NB.t_r 13 [15, 16, 17, 18, 19] rfl (by kernel_rfl) (by kernel_rfl) rfl _ (fun w' hw' => NB.run_op_load rfl rfl Try.underlying9 rfl (q4) hw') (fun K hK => ?_); go_simp; refine hK _ ?_; clear hK K
      refine NB.t_p 14 rfl (by kernel_rfl) (fun K hK => ?_); go_simp; refine hK _ ?_; clear hK K
      refine NB.t_p 15 rfl (by kernel_rfl) (fun K hK => ?_); go_simp; refine hK _ ?_; clear hK K
      refine NB.t_p 16 rfl (by kernel_rfl) (fun K hK => ?_); go_simp; refine hK _ ?_; clear hK K
      refine NB.t_e 17 rfl (by kernel_rfl) (by kernel_rfl) (fun K hK => ?_); unfold NB.tmoves; go_simp; refine (rput_any _ _ _ _ X h16 j (by omega) (b.take N ++ Y.drop N) (by omega)).mono ?_; rintro e w7 ⟨a7, c7, rfl, hr7, hb7, hlo7⟩; refine ⟨_, rfl, hb7, hK _ _ ?_⟩; clear hK K
      have R17 := R16.below hb7
      have R27 := R26.below hb7
      have B7 := bel B6 hb7 B6.size
      refine NB.t_p 18 rfl (by kernel_rfl) (fun K hK => ?_); go_simp; refine hK _ ?_; clear hK K
      refine NB.t_w 19 rfl (by kernel_rfl) (by kernel_rfl) rfl (fun Q' hK => ?_)
      have x0 := R17.cell 0 _ rfl
      have u0 := R17.free 0
      go_wp2_with fail
      refine NB.t_end (by kernel_rfl) ?_
      have hsz7 := R27.lt
      have hsz6 := R26.lt
      have KF : Kp (fun k => k = w.heap.size) w7 (w7.setCell ⟨w.heap.size, 0, none⟩ (.slice a7 l.length c7)) := (Kp.refl (fun k => k = w.heap.size) w7).setCell (x := ⟨w.heap.size, 0, none⟩) (.inl rfl) _
      have hrF := KF.rd hr7 (fun b o e _ h => by have := hlo7 b o e; omega)
      have RF1 := R17.set 0 (.slice a7 l.length c7)
      have RF2 := R27.other (g' := w.heap.size) (by omega) 0 (.slice a7 l.length c7)
      have BF : Below w.heap.size w (w7.setCell ⟨w.heap.size, 0, none⟩ (.slice a7 l.length c7)) := B7.setCell (p := ⟨w.heap.size, 0, none⟩) (Nat.le_refl _) _
      go_wp2_with fail
      exact ⟨⟨k + 1, a7, c7, by omega, by omega, by simp, RF1, RF2, by rw [HLS.out]; exact hrF, fun b o e _ => by have := hlo7 b o e; omega, BF, .inr fun b o e => by have := hlo7 b o e; have := B6.size; omega⟩, by simp [intOf]; omega⟩
    · have hfin : Dk.tears l (waits.take k) pick = Dk.tears l waits pick := by
        rcases Nat.lt_or_ge k waits.length with h | h
        · exact tears_out waits l pick k (by omega)
        · rw [List.take_of_length_le h]
      rw [hfin] at hr1 hnf hXl
      obtain ⟨x0, x1, x2, x3, u0, u1, u2, u3⟩ := rw4 R1
      obtain ⟨y0, y1, y2, y3, v0, v1, v2, v3⟩ := rw4 R2
      have hz := R2.lt
      by_cases hkw : k < waits.length
      · have hki : (k : Int) < (waits.length : Int) := by omega
        have hkpi : ¬ (k : Int) < (pick.length : Int) := by omega
        go_wp2_with fail
        have KF : Kp (fun k => k = w.heap.size ∨ k = w.heap.size + 1) wr ((((wr.setCell ⟨w.heap.size + 1, 0, none⟩ (.slice a l.length c)).setCell ⟨w.heap.size + 1, 1, none⟩ (.slice none 0 0)).setCell ⟨w.heap.size + 1, 2, none⟩ (.int .i64 (-1))).setCell ⟨w.heap.size + 1, 3, none⟩ (.bool false)) :=
          ((((Kp.refl _ wr).setCell (x := ⟨w.heap.size + 1, 0, none⟩) (.inl (.inr rfl)) _).setCell (x := ⟨w.heap.size + 1, 1, none⟩) (.inl (.inr rfl)) _).setCell (x := ⟨w.heap.size + 1, 2, none⟩) (.inl (.inr rfl)) _).setCell (x := ⟨w.heap.size + 1, 3, none⟩) (.inl (.inr rfl)) _
        have hrF := KF.rd hr1 (fun b o e hn h => by
          have := hnf b o e hn
          rcases h with h | h <;> omega)
        refine bodyPost_ret (v := rdV a l.length c none 0 0 (-1) false) (by simp [results, Try.results25, go_sem, y0, y1, y2, y3, hz, rdV]) rfl ⟨_, rfl, ⟨a, c, none, 0, ?_, ?_, NB.Rd.nil_mk⟩, ?_, loc_of (fun k o e hn => hloc.elim (fun h => .inl (loc_1 k o (h ▸ e) hn)) (fun h => .inr (h k o e))) (fun k o e => nomatch e)⟩
        · simp only [Dk.crash, hXl]; rfl
        · simp only [Dk.crash, hXl]; exact hrF
        · iterate 4 refine Below.setCell ?_ (by simp) _
          exact hB
      · have hki : ¬ (k : Int) < (waits.length : Int) := by omega
        go_wp2_with fail
        have KF : Kp (fun k => k = w.heap.size ∨ k = w.heap.size + 1) wr ((((wr.setCell ⟨w.heap.size + 1, 0, none⟩ (.slice a l.length c)).setCell ⟨w.heap.size + 1, 1, none⟩ (.slice none 0 0)).setCell ⟨w.heap.size + 1, 2, none⟩ (.int .i64 (-1))).setCell ⟨w.heap.size + 1, 3, none⟩ (.bool false)) :=
          ((((Kp.refl _ wr).setCell (x := ⟨w.heap.size + 1, 0, none⟩) (.inl (.inr rfl)) _).setCell (x := ⟨w.heap.size + 1, 1, none⟩) (.inl (.inr rfl)) _).setCell (x := ⟨w.heap.size + 1, 2, none⟩) (.inl (.inr rfl)) _).setCell (x := ⟨w.heap.size + 1, 3, none⟩) (.inl (.inr rfl)) _
        have hrF := KF.rd hr1 (fun b o e hn h => by
          have := hnf b o e hn
          rcases h with h | h <;> omega)
        refine bodyPost_ret (v := rdV a l.length c none 0 0 (-1) false) (by simp [results, Try.results25, go_sem, y0, y1, y2, y3, hz, rdV]) rfl ⟨_, rfl, ⟨a, c, none, 0, ?_, ?_, NB.Rd.nil_mk⟩, ?_, loc_of (fun k o e hn => hloc.elim (fun h => .inl (loc_1 k o (h ▸ e) hn)) (fun h => .inr (h k o e))) (fun k o e => nomatch e)⟩
        · simp only [Dk.crash, hXl]; rfl
        · simp only [Dk.crash, hXl]; exact hrF
        · iterate 4 refine Below.setCell ?_ (by simp) _
          exact hB
end Go.Proofs.Ytcdapjfaekamkaa
