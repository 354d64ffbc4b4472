/- The reference on disks, walked: a new one. -/
import Derived.Test.YtcdapjfaekamkaaRfe
namespace Go.Proofs.Ytcdapjfaekamkaa
open Go.RowKit
open Go.NB (Rd Dk Kp Stp Off Dis)

theorem write_l (D : Dk) (i : Int) (b : List UInt8) : (D.write i b).1.l = D.l := by
  unfold Dk.write
  split
  · rfl
  split
  · rfl
  split <;> rfl
theorem rwriteR (w : World) (v : Value) (D : Dk) (i : Int) (bs : List UInt8) (h : RefD w v D) (hl : -1 ≤ D.left) (hl2 : D.left ≤ 9223372036854775807) (hw : D.waits.length ≤ 100000) (hbl : bs.length ≤ 1000000) :
    Calls Try.prog 24 #[v, .int .i64 i, strL bs] w (DidR w v (D.write i bs)) := by
  obtain ⟨a1, c1, a2, c2, rfl, h1, h2⟩ := h
  refine (rwrite_any w a1 _ c1 a2 _ c2 D i bs rfl h2 hl hl2 hw hbl).mono ?_
  rintro e w' ⟨a', c', rfl, hr, hb, hloc⟩
  have hwl := write_l D i bs
  refine ⟨_, rfl, ⟨a1, c1, a', c', by rw [hwl], by rw [hwl]; exact Rd.below h1 hb, hr⟩, hb, ?_⟩
  refine loc_of (fun k o e hn => .inl (loc_1 k o e hn)) (fun k o e hn => ?_)
  rcases hloc with h | h
  · exact .inl (loc_2 k o (h.1 ▸ e) (by have := h.2; omega))
  · exact .inr (h k o e)
theorem rstopR (w : World) (v : Value) (D : Dk) (x : Int) (h : RefD w v D) :
    Calls Try.prog 21 #[v, .int .i64 x] w (GaveR w v (D.stop x)) := by
  obtain ⟨a1, c1, a2, c2, rfl, h1, h2⟩ := h
  refine (rstop_any w a1 _ c1 a2 _ c2 D.left D.down x).mono ?_
  rintro e w' ⟨rfl, hb⟩
  exact ⟨_, rfl, ⟨a1, c1, a2, c2, rfl, Rd.below h1 hb, Rd.below h2 hb⟩, hb, fun k h => .inl (loc_same k h)⟩

set_option maxHeartbeats 1000000 in
theorem rnew_bad (w : World) (n : Int) (h : n < 1 ∨ 65536 < n) : Calls Try.prog 18 #[.int .i64 n] w fun e w' => e = .returned (.tuple #[rdV none 0 0 none 0 0 0 false, .int .i64 1]) ∧ Below w.heap.size w w' := by
  by_cases h1 : n < 1
  · go_enter Try.func18, Try.ntmps18
    go_wp2
    exact bodyPost_ret (v := .tuple #[rdV none 0 0 none 0 0 0 false, .int .i64 1]) (by simp [results, Try.results18, go_sem, rdV]) rfl ⟨rfl, oneB _ _⟩
  · have h2 : 65536 < n := by omega
    go_enter Try.func18, Try.ntmps18
    go_wp2
    exact bodyPost_ret (v := .tuple #[rdV none 0 0 none 0 0 0 false, .int .i64 1]) (by simp [results, Try.results18, go_sem, rdV]) rfl ⟨rfl, oneB _ _⟩

set_option maxRecDepth 100000 in
set_option maxHeartbeats 4000000 in
theorem rnew_any (w : World) (n : Nat) (h1 : 1 ≤ n) (h2 : n ≤ 65536) : Calls Try.prog 18 #[.int .i64 n] w (DidR w undef (Dk.fresh n, 0)) := by
  obtain ⟨Z, hZ⟩ : ∃ Z : List UInt8, List.replicate 64 0 = Z := ⟨_, rfl⟩
  have hno := rnoughts_any
  simp only [hZ] at hno
  have HNO := Go.Lib.hid hno
  have HZ := Go.Lib.hid hZ
  clear hno hZ
  have h1i : ¬ (n : Int) < 1 := by omega
  have h2i : ¬ 65536 < (n : Int) := by omega
  have T := two_rw w (.slice none 0 0) (.slice none 0 0) (.int .i64 0) (.bool false) (.slice none 0 0) (.slice none 0 0) (.int .i64 (-1)) (.bool false) 49 49
  go_enter Try.func18, Try.ntmps18
  go_wp2_with fail
  have B5 := twoB w (.cells #[.slice none 0 0, .slice none 0 0, .int .i64 0, .bool false] 49) (.cells #[.slice none 0 0, .slice none 0 0, .int .i64 (-1), .bool false] 49)
  generalize (w.alloc (.cells #[.slice none 0 0, .slice none 0 0, .int .i64 0, .bool false] 49)).alloc (.cells #[.slice none 0 0, .slice none 0 0, .int .i64 (-1), .bool false] 49) = w3 at *
  obtain ⟨R15, R25⟩ := T
  go_loopw [5] (fun x wr => ∃ (k : Nat) (v : Value), k ≤ n ∧ x = .int .i64 k ∧ Rw wr w.heap.size [.slice none 0 0, .slice none 0 0, .int .i64 0, .bool false] 49 ∧ Rw wr (w.heap.size + 1) [v, .slice none 0 0, .int .i64 (-1), .bool false] 49 ∧ wr.ownsRow (w.heap.size + 2) 9 1 v k (strsL (List.replicate k Z)) ∧ Below w.heap.size w wr) (fun x _ => n - (intOf x).toNat)
  case atStart => exact ⟨0, _, by omega, rfl, R15, R25, World.ownsRow_nil _ _ _ _, B5⟩
  case round =>
    clear R15 R25 B5
    obtain ⟨k, v, hk, rfl, R1, R2, ho, hB⟩ := hrel
    by_cases hlt : k < n
    · have hki : (k : Int) < (n : Int) := by omega
      go_wp2_with fail
      refine NB.wp_region_t [4, 6] (by kernel_rfl) ?_
      have R16 := R1.below (Below.refl _ wr).drew
      have R26 := R2.below (Below.refl _ wr).drew
      have B6 : Below w.heap.size w wr.drew := hB.drew
      have ho6 := (Kp.of_below (F := fun _ => False) (Below.refl _ wr).drew).own ho (fun _ _ h => h)
      clear R1 R2 hB ho
      generalize wr.drew = w6 at *
      have x0 := R26.cell 0 _ rfl
      refine NB.t_p 0 rfl (by kernel_rfl) (fun K hK => ?_); go_simp; refine hK _ ?_; clear hK K
      refine NB.t_r 1 [4, 5, 6] rfl (by kernel_rfl) (by kernel_rfl) rfl _ (fun w' hw' => NB.run_op_load rfl rfl Try.underlying38 rfl (x0) hw') (fun K hK => ?_); go_simp; refine hK _ ?_; clear hK K
      refine NB.t_e 2 rfl (by kernel_rfl) (by kernel_rfl) (fun K hK => ?_); unfold NB.tmoves; go_simp; refine (HNO.out _).mono ?_; rintro e w7 ⟨rfl, hb7⟩; refine ⟨_, rfl, hb7, hK _ _ ?_⟩; clear hK K
      have R17 := R16.below hb7
      have R27 := R26.below hb7
      have B7 := bel B6 hb7 B6.size
      have ho7 := (Kp.of_below (F := fun _ => False) hb7).own ho6 (fun _ _ h => h)
      unfold strL
      refine NB.t_e 3 rfl (by kernel_rfl) (by kernel_rfl) (fun K hK => ?_); unfold NB.tmoves; go_simp; refine ⟨(Below.refl _ _).alloc (Nat.le_refl _) _, hK _ _ ?_⟩; clear hK K
      have R18 := R17.below (oneB w7 (.cells #[.string ⟨Z.toArray⟩] 9))
      have R28 := R27.below (oneB w7 (.cells #[.string ⟨Z.toArray⟩] 9))
      have B8 := B7.alloc B7.size (.cells #[.string ⟨Z.toArray⟩] 9)
      have ho8 := (Kp.of_below (F := fun _ => False) (oneB w7 (.cells #[.string ⟨Z.toArray⟩] 9))).own ho7 (fun _ _ h => h)
      have hs8 := str_rd w7 Z rfl
      have hz8 : w.heap.size + 2 ≤ (w7.alloc (.cells #[.string ⟨Z.toArray⟩] 9)).heap.size := R28.lt
      refine NB.t_w 4 rfl (by kernel_rfl) (by kernel_rfl) rfl (fun Q' hK => ?_)
      refine NB.wpList_append_at rfl (.tmp 20) (.tmp 22) 38 rfl (w.heap.size + 2) slTS _ k (strsL (List.replicate k Z)) rfl ho8 _ 1 1 [strL Z] rfl hs8 (str_one _) (by omega) (by unfold maxLen; omega) hz8 ?_
      generalize w7.alloc (.cells #[.string ⟨Z.toArray⟩] 9) = w8 at *
      intro v9 w9 ho9 hg9 hv9
      obtain ⟨a9, c9, rfl, _, _, _⟩ := NB.rd_of_own ho9
      have K9 : Kp (fun k => v.ownBlock = some k) w8 w9 := (Kp.refl _ w8).grown hg9 (fun k hk => .inl hk)
      have R19 := R18.keep K9 (fun h => by have := (ho8.lt _ h).1; omega)
      have R29 := R28.keep K9 (fun h => by have := (ho8.lt _ h).1; omega)
      have B9 : Below w.heap.size w w9 := bel B8 (K9.belowB B8.size (fun k hk => by have := (ho8.lt _ hk).1; omega)) (Nat.le_refl _)
      go_wp2_with fail
      refine NB.t_p 5 rfl (by kernel_rfl) (fun K hK => ?_); go_simp; refine hK _ ?_; clear hK K
      refine NB.t_w 6 rfl (by kernel_rfl) (by kernel_rfl) rfl (fun Q' hK => ?_)
      have x0 := R29.cell 0 _ rfl
      have u0 := R29.free 0
      go_wp2_with fail
      refine NB.t_end (by kernel_rfl) ?_
      have KF : Kp (fun k => k = w.heap.size + 1) w9 (w9.setCell ⟨w.heap.size + 1, 0, none⟩ (.slice a9 (k + 1) c9)) := (Kp.refl (fun k => k = w.heap.size + 1) w9).setCell (x := ⟨w.heap.size + 1, 0, none⟩) (.inl rfl) _
      have hoF := KF.own ho9 (fun k hk h => by have := (ho9.lt _ hk).1; omega)
      have RF1 := R19.other (g' := w.heap.size + 1) (by omega) 0 (.slice a9 (k + 1) c9)
      have RF2 := R29.set 0 (.slice a9 (k + 1) c9)
      have BF : Below w.heap.size w (w9.setCell ⟨w.heap.size + 1, 0, none⟩ (.slice a9 (k + 1) c9)) := B9.setCell (p := ⟨w.heap.size + 1, 0, none⟩) (by simp) _
      have e1 : strsL (List.replicate k Z) ++ [strL Z] = strsL (List.replicate (k + 1) Z) := by
        rw [List.replicate_succ', strsL, strsL, List.map_append]; rfl
      rw [e1] at hoF
      go_wp2_with fail
      exact ⟨⟨k + 1, .slice a9 (k + 1) c9, by omega, by simp, RF1, RF2, hoF, BF⟩, by simp [intOf]; omega⟩
    · obtain rfl : k = n := by omega
      obtain ⟨a, c, rfl, hr1, hlo, _⟩ := NB.rd_of_own ho
      obtain ⟨x0, x1, x2, x3, u0, u1, u2, u3⟩ := rw4 R2
      obtain ⟨y0, y1, y2, y3, v0, v1, v2, v3⟩ := rw4 R1
      have hz := R1.lt
      go_wp2_with fail
      have KF : Kp (fun k => k = w.heap.size) wr ((((wr.setCell ⟨w.heap.size, 0, none⟩ (.slice a k c)).setCell ⟨w.heap.size, 1, none⟩ (.slice none 0 0)).setCell ⟨w.heap.size, 2, none⟩ (.int .i64 (-1))).setCell ⟨w.heap.size, 3, none⟩ (.bool false)) :=
        ((((Kp.refl (fun k => k = w.heap.size) wr).setCell (x := ⟨w.heap.size, 0, none⟩) (.inl rfl) _).setCell (x := ⟨w.heap.size, 1, none⟩) (.inl rfl) _).setCell (x := ⟨w.heap.size, 2, none⟩) (.inl rfl) _).setCell (x := ⟨w.heap.size, 3, none⟩) (.inl rfl) _
      have hrF := KF.rd hr1 (fun b o e hn h => by have := (hlo b o e).1; omega)
      refine bodyPost_ret (v := .tuple #[rdV a k c none 0 0 (-1) false, .int .i64 0]) (by simp [results, Try.results18, go_sem, y0, y1, y2, y3, hz, rdV]) rfl ⟨_, rfl, ⟨a, c, none, 0, ?_, ?_, NB.Rd.nil_mk⟩, ?_, loc_of (fun k o e _ => .inr (by have := (hlo k o e).1; omega)) (fun k o e => nomatch e)⟩
      · simp only [Dk.fresh, List.length_replicate]; rfl
      · simp only [Dk.fresh, List.length_replicate]; rw [HZ.out]; exact hrF
      · iterate 4 refine Below.setCell ?_ (by simp) _
        exact hB
end Go.Proofs.Ytcdapjfaekamkaa
