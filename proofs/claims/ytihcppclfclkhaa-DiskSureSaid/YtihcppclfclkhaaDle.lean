/- The walk for the statement DiskLayers. -/
import Derived.Test.YtihcppclfclkhaaDld
namespace Go.Proofs.Ytihcppclfclkhaa
open Go.RowKit
open Go.NB (Rd Dk Kp footD Stp Off Dis)

def laD (X : List UInt8) (ws : List (Nat × List UInt8)) : Dk := { l := [X], waits := ws, left := -1, down := false }
theorem la0 : Dk.fresh 1 = laD (List.replicate 64 0) [] := rfl
theorem la_w (X Y : List UInt8) (ws : List (Nat × List UInt8)) (h : Y.length = 64) : (laD X ws).write 0 Y = (laD X (ws ++ [(0, Y)]), 0) := by
  simp [Dk.write, Dk.at_, laD, h]
  decide
theorem la_s (X : List UInt8) : (laD X []).sync = (laD X [], 0) := by
  simp [Dk.sync, laD, Dk.lay]
  decide
theorem la_r (X : List UInt8) : (laD X []).read 0 = (X, 0) := by
  simp [Dk.read, Dk.at_, laD, Dk.see]

/-- What the law wants behind these writes. -/
def LaInv (ws : List (Nat × List UInt8)) (pick W : List UInt8) (m : Nat) : Prop :=
  ws.length = m ∧ W.length = 64 ∧ Dk.tears [List.replicate 64 0] ws pick = [W]
theorem la_inv0 (pick : List UInt8) : LaInv [] pick (List.replicate 64 0) 0 := ⟨rfl, by simp, by cases pick <;> rfl⟩
theorem la_step {ws : List (Nat × List UInt8)} {pick W : List UInt8} {m : Nat} (h : LaInv ws pick W m) (b : List UInt8) (hb : b.length = 64) (nn : Nat) (hn : nn = if m < pick.length then (pick.getD m 0).toNat % 65 else 0) :
    nn ≤ 64 ∧ LaInv (ws ++ [(0, b)]) pick (b.take nn ++ W.drop nn) (m + 1) := by
  obtain ⟨h1, h2, h3⟩ := h
  have hn64 : nn ≤ 64 := by
    rw [hn]; split
    · omega
    · omega
  have hs := NB.tears_succ (ws ++ [(0, b)]) [List.replicate 64 0] pick m (0, b) (by rw [← h1]; simp)
  rw [List.take_of_length_le (by simp; omega), show (ws ++ [((0 : Nat), b)]).take m = ws by rw [← h1]; simp, h3] at hs
  refine ⟨hn64, by simp [h1], ?_, ?_⟩
  · rw [List.length_append, List.length_take, List.length_drop]; omega
  · rw [hs]
    by_cases hmp : m < pick.length
    · rw [if_pos hmp] at hn ⊢
      rw [← hn]
      simp [Dk.tear]
    · rw [if_neg hmp] at hn ⊢
      subst hn
      simp
theorem la_end {ws : List (Nat × List UInt8)} {pick W : List UInt8} {m : Nat} (h : LaInv ws pick W m) : (laD (List.replicate 64 0) ws).crash pick = laD W [] := by
  simp only [Dk.crash, laD, h.2.2]

/-- A row of bytes. -/
def RowB (w : World) (g : Nat) (bs : List UInt8) : Prop := w.heap[g]? = some (.cells (bs.map NB.u8v).toArray 5 (0, 0))
theorem RowB.lt {w : World} {g : Nat} {bs : List UInt8} (h : RowB w g bs) : g < w.heap.size := (Array.getElem?_eq_some_iff.1 h).1
theorem RowB.keep {F : Nat → Prop} {w w' : World} {g : Nat} {bs : List UInt8} (h : RowB w g bs) (hk : Kp F w w') (hF : ¬ F g) : RowB w' g bs := (hk.block g h.lt hF).trans h
theorem RowB.below {w w' : World} {g : Nat} {bs : List UInt8} (h : RowB w g bs) (hb : Below w.heap.size w w') : RowB w' g bs := (hb.block g h.lt).trans h
theorem RowB.rd {w : World} {g : Nat} {bs : List UInt8} (h : RowB w g bs) (hl : bs.length ≤ maxLen) : NB.RdB w (some ⟨g, 0, none⟩) bs.length bs.length bs := NB.rdB_row h rfl hl
/-- A byte of it is stored anew. -/
theorem RowB.set {w : World} {g : Nat} {bs : List UInt8} (h : RowB w g bs) (k : Nat) (y : UInt8) : RowB (w.setCell ⟨g, k, none⟩ (.int .u8 (y.toNat : Int))) g (bs.set k y) := by
  unfold RowB
  rw [heap_setCell_same _ _ _ _ _ _ h]
  exact congrArg (fun x => some (Obj.cells x 5 (0, 0))) (set_u8v bs k y)
theorem RowB.cell {w : World} {g : Nat} {bs : List UInt8} (h : RowB w g bs) (k : Nat) (hk : k < bs.length) : w.cell? ⟨g, k, none⟩ = some (.int .u8 ((bs.getD k 0).toNat : Int)) := by
  rw [cell_of_row _ _ _ _ _ _ h]
  simp [NB.u8v, List.getD, hk]
theorem RowB.free {w : World} {g : Nat} {bs : List UInt8} (h : RowB w g bs) (k : Nat) : w.frozen? ⟨g, k, none⟩ = false := frozen_of_row _ _ _ _ _ h

theorem take_set (b W : List UInt8) (k : Nat) (hb : b.length = 64) (hW : W.length = 64) (hk : k < 64) : (b.take k ++ W.drop k).set k (b.getD k 0) = b.take (k + 1) ++ W.drop (k + 1) := by
  have hl : (b.take k).length = k := by rw [List.length_take]; omega
  rw [NB.take_getD b k (by omega) (d := 0), List.set_append_right _ _ (by omega), hl, Nat.sub_self, List.drop_eq_getElem_cons (by omega), List.set_cons_zero, List.append_assoc]
  rfl

theorem byte_at {w : World} {a : Option Addr} {n c : Nat} {bs : List UInt8} (h : NB.RdB w a n c bs) (k : Nat) (hk : k < n) :
    ∃ b o, w.cell? ⟨b, o + k, none⟩ = some (.int .u8 ((bs.getD k 0).toNat : Int)) ∧ a = some ⟨b, o, none⟩ := by
  obtain ⟨b, o, e, hc⟩ := NB.RdB.at h (by omega)
  exact ⟨b, o, hc k hk, e⟩

set_option maxHeartbeats 4000000 in
theorem law_layers (w : World) (a : Option Addr) (n c : Nat) (l : List (List UInt8)) (a' : Option Addr) (n' c' : Nat) (pick : List UInt8) (h : NB.RdBB w a n c l) (h' : NB.RdB w a' n' c' pick) :
    Calls Try.prog 5 #[.slice a n c, .slice a' n' c'] w fun e w' => e = .returned (.bool true) ∧ Below w.heap.size w w' := by
  obtain ⟨i, hi, hz, hsz, hby⟩ := slTB.hi
  have hbd := NB.RdBB.bound h
  have hbd' := Rd.bound h'
  have hpl := NB.RdB.size h'
  by_cases hn : n ≤ 12
  · have hnz : (n : Int) ≤ 12 := by omega
    go_enter Try.func5, Try.ntmps5
    go_wp2_with (first
      | (go_at_call 9; refine (awake_any _).mono ?_; rintro e w1 ⟨rfl, hb1⟩)
      | (go_at_call 10; refine (dnew_any _ 1 (by omega) (by omega)).mono ?_; rintro e w2 ⟨p, F2, rfl, hD2, hb2⟩; have B2 := bel hb1 hb2 hb1.size)
      | (refine wpList_make_full w2 rfl (.const (.int .i64 64)) (.const (.int .i64 64)) 22 rfl w2.heap.size 5 i (.int .u8 0) 1 slTB.ht hi hz hsz .i64 .i64 64 64 64 rfl rfl rfl rfl (by rw [hby]; omega) (by unfold maxLen; omega) (Nat.le_refl _) ?_; intro w3 ho3 hg3))
    have hr3 : RowB w3 w2.heap.size (List.replicate 64 0) := by
      have := row_full ho3
      rw [show (Value.int IntKind.u8 0).cells = #[.int .u8 0] from rfl, Nat.mul_one, made_bytes] at this
      exact this
    have hb3 : Below w2.heap.size w2 w3 := (Below.refl _ w2).grown hg3 (Nat.le_refl _) (by rintro k hk; cases hk)
    have B3 := bel B2 hb3 B2.size
    have hD3 := hD2.below hb3
    have hd3 : Dis F2 (fun k => k = w2.heap.size) := fun k hk e => by have := (hD2.foot k hk).2; omega
    have hbase := hb1.size
    have hGb : w.heap.size ≤ w2.heap.size := B2.size
    have hI := la_inv0 pick
    rw [la0] at hD3
    clear ho3 hg3 hb3 hD2 hb2 hb1 B2
    generalize w2.heap.size = G at *
    go_loopw [9] (fun i wr => ∃ (m : Nat) (ws : List (Nat × List UInt8)) (W : List UInt8) (F : Nat → Prop), m ≤ n ∧ i = .int .i64 m ∧ HasD wr w1.heap.size p F (laD (List.replicate 64 0) ws) ∧ LaInv ws pick W m ∧ RowB wr G W ∧ Dis F (fun k => k = G) ∧ Below w.heap.size w wr) (fun i _ => n - (intOf i).toNat)
    case atStart => exact ⟨0, [], _, F2, by omega, rfl, hD3, hI, hr3, hd3, B3⟩
    case round =>
      clear B3 hD3 hI hr3 hd3
      obtain ⟨m, ws, W, F, hm, rfl, hD, hI, hr, hd, hB⟩ := hrel
      have hww : (laD (List.replicate 64 0) ws).waits.length ≤ 1000000 := by have := hI.1; show ws.length ≤ _; omega
      by_cases hlt : m < n
      · obtain ⟨b3, o3, rfl, hc3⟩ := NB.RdBB.pos (h.below hB) (by omega)
        obtain ⟨ai, ni, ci, q3, hri⟩ := hc3 m hlt
        clear hc3
        generalize l.getD m [] = t at *
        have hki : (m : Int) < (n : Int) := by omega
        have hbi := Rd.bound hri
        by_cases ht : ni ≤ 64
        · have hbl := filled_len t
          obtain ⟨nn, hnn⟩ : ∃ nn : Nat, nn = if m < pick.length then (pick.getD m 0).toNat % 65 else 0 := ⟨_, rfl⟩
          obtain ⟨hn64, hI'⟩ := la_step hI (filledL t false) hbl nn hnn
          have hwl := hI.2.1
          have hFG : ∀ k, F k ∨ k = G → k < wr.heap.size := fun k hk => by
            rcases hk with hk | rfl
            · exact (hD.foot k hk).2
            · exact hr.lt
          have HI := Go.Lib.hid hI; clear hI
          rcases Nat.lt_or_ge m n' with hik | hik
          · rw [if_pos (by omega)] at hnn
            generalize hy : pick.getD m 0 = y at *
            have HY := Go.Lib.hid hy; clear hy
            have hnn' : (y.toNat : Int) % 65 = (nn : Int) := by omega
            have hiki : (m : Int) < (n' : Int) := by omega
            have HN := Go.Lib.hid hnn; clear hnn
            go_wp2_with (first
              | (go_at_call 11; refine (filled_any _ ai ni ci t false hri).mono ?_; rintro e w4 ⟨a4, c4, rfl, ho4, hb4⟩; have of4 := Off.fresh (F := fun k => F k ∨ k = G) ho4 (fun k hk => hFG k hk); rw [hbl] at of4; rw [hbl]; have B4 := bel hB hb4 hB.size)
              | (go_at_call 12; refine (dwrite_any _ _ _ _ _ 0 _ _ _ _ (hD.below hb4) ⟨of4.rd, fun k o e hn hf => of4.nf k o e hn (.inl hf)⟩ hww).mono ?_; rw [la_w _ _ _ hbl]; rintro e w5 ⟨rfl, F5, hD5, hS5⟩; have of5 := of4.step (hS5.add _); have B5 := bel B4 ((hD.below hb4).low hS5) hbase; obtain ⟨b6, o6, q6, rfl⟩ := byte_at (h'.below B5) m hik; rw [HY.out] at q6))
            rw [mod65, ← HN.out]
            have hd5 := hd.symm.step (fun k e => by rw [e]; exact Nat.lt_of_lt_of_le hr.lt hb4.size) hS5
            have hr5 := (hr.below hb4).keep hS5.kp (fun hf => hd G hf rfl)
            generalize filledL t false = b at *
            have rb5 := of5.rd
            have hnb : ∀ k o, a4 = some ⟨k, o, none⟩ → b ≠ [] → k ≠ G := fun k o e hn hf => of5.nf k o e hn (.inr hf)
            clear hS5 hr hb4 of4 hD hB B4 of5 hd hFG ho4 hri q3 HI
            go_loopw [12] (fun k wr => ∃ j : Nat, j ≤ nn ∧ k = .int .i64 j ∧ RowB wr G (b.take j ++ W.drop j) ∧ HasD wr w1.heap.size p F5 (laD (List.replicate 64 0) (ws ++ [(0, b)])) ∧ NB.RdB wr a4 64 c4 b ∧ Below w.heap.size w wr) (fun k _ => nn - (intOf k).toNat)
            case atStart =>
              exact ⟨0, by omega, rfl, hr5, hD5, rb5, B5⟩
            case round =>
              clear hr5 hD5 rb5 B5
              obtain ⟨j, hj, rfl, hr, hD, rb, hB⟩ := hrel
              by_cases hjn : j < nn
              · obtain ⟨b7, o7, q7, rfl⟩ := byte_at rb j (by omega)
                have hjni : (j : Int) < (nn : Int) := by omega
                have hfr := hr.free j
                have hlen : (b.take j ++ W.drop j).length = 64 := by rw [List.length_append, List.length_take, List.length_drop]; omega
                have hce := hr.cell j (by omega)
                have hset := hr.set j (b.getD j 0)
                rw [take_set b W j hbl hwl (by omega)] at hset
                generalize (b.take j ++ W.drop j).getD j 0 = old at hce
                generalize b.getD j 0 = y at *
                have HSET := Go.Lib.hid hset; clear hset
                have hk := Kp.setCell (F := fun k => k = G) (Kp.refl _ wr) (x := ⟨G, j, none⟩) (.inl rfl) (.int .u8 (y.toNat : Int))
                have HK := Go.Lib.hid hk; clear hk
                go_wp2_with fail
                go_roundw
                case rel => exact ⟨j + 1, by omega, by go_num, HSET.out, hD.keep HK.out (fun k hk e => hd5 k e hk), HK.out.rdB rb (fun k o e hn => hnb k o e hn), hB.trans (HK.out.belowB hB.size (fun k e => by rw [e]; exact hGb))⟩
                case measure => simp [intOf]; omega
              · obtain rfl : j = nn := by omega
                go_wp2_with fail
                go_roundw
                case rel => exact ⟨m + 1, _, _, F5, by omega, by go_num, hD, hI', hr, hd5.symm, hB⟩
                case measure => simp [intOf]; omega
          · rw [if_neg (by omega)] at hnn
            subst hnn
            have hiki : ¬ (m : Int) < (n' : Int) := by omega
            go_wp2_with (first
              | (go_at_call 11; refine (filled_any _ ai ni ci t false hri).mono ?_; rintro e w4 ⟨a4, c4, rfl, ho4, hb4⟩; have of4 := Off.fresh (F := fun k => F k ∨ k = G) ho4 (fun k hk => hFG k hk); rw [hbl] at of4; rw [hbl]; have B4 := bel hB hb4 hB.size)
              | (go_at_call 12; refine (dwrite_any _ _ _ _ _ 0 _ _ _ _ (hD.below hb4) ⟨of4.rd, fun k o e hn hf => of4.nf k o e hn (.inl hf)⟩ hww).mono ?_; rw [la_w _ _ _ hbl]; rintro e w5 ⟨rfl, F5, hD5, hS5⟩; have of5 := of4.step (hS5.add _); have B5 := bel B4 ((hD.below hb4).low hS5) hbase))
            have hd5 := hd.symm.step (fun k e => by rw [e]; exact Nat.lt_of_lt_of_le hr.lt hb4.size) hS5
            have hr5 := (hr.below hb4).keep hS5.kp (fun hf => hd G hf rfl)
            generalize filledL t false = b at *
            have rb5 := of5.rd
            have hnb : ∀ k o, a4 = some ⟨k, o, none⟩ → b ≠ [] → k ≠ G := fun k o e hn hf => of5.nf k o e hn (.inr hf)
            clear hS5 hr hb4 of4 hD hB B4 of5 hd hFG ho4 hri q3 HI
            rw [List.take_zero, List.nil_append, List.drop_zero] at hI'
            have HI := Go.Lib.hid hI'; clear hI'
            refine wp_loop_rounds 1 ?_
            rw [rounds_succ]
            go_wp2_with fail
            go_roundw
            case rel => exact ⟨m + 1, _, _, F5, by omega, by go_num, hD5, HI.out, hr5, hd5.symm, B5⟩
            case measure => simp [intOf]; omega
        · have hti : ¬ (ni : Int) ≤ 64 := by omega
          go_wp2_with fail
          go_ret
          exact ⟨rfl, hB⟩
      · obtain rfl : m = n := by omega
        have hwl := hI.2.1
        have HE := Go.Lib.hid (la_end hI)
        clear hI
        go_wp2_with fail
        refine (dcrash_any _ _ _ _ _ a' n' c' pick hD (off_under h' hB hD hbase) hww).mono ?_
        rw [HE.out]
        rintro e w4 ⟨rfl, F4, hD4, hS4⟩
        have B4 := bel hB (hD.low hS4) hbase
        have hr4 := hr.keep hS4.kp (fun hf => hd G hf rfl)
        go_wp2_with fail
        refine (dread_any _ _ _ _ _ 0 hD4 (by simp [laD])).mono ?_
        rw [la_r]
        rintro e w5 ⟨a5, c5, rfl, ho5, hb5⟩
        have B5 := bel B4 hb5 B4.size
        have r5 := (Off.fresh (F := fun _ => False) ho5 (fun _ h => h.elim)).rd
        have rG := (hr4.below hb5).rd (by unfold maxLen; omega)
        have hD5 := hD4.below hb5
        rw [show (W, (0 : Int)).1 = W from rfl] at r5 ⊢
        rw [hwl] at r5 rG ⊢
        have HW := Go.Lib.hid hwl
        clear hwl hr4 hb5 hr
        go_wp2_with (first
          | (refine NB.wpList_conv_str rfl 22 9 (.tmp 82) rfl Try.underlying22 Try.underlying5 Try.underlying9 a5 64 c5 W rfl r5 ?_)
          | (refine NB.wpList_conv_str rfl 22 9 (.tmp 84) rfl Try.underlying22 Try.underlying5 Try.underlying9 _ 64 64 W rfl rG ?_)
          | (go_at_call 13; refine (dsync_any _ _ _ _ _ hD5 (by simp [laD])).mono ?_; rw [la_s]; rintro e w6 ⟨rfl, F6, hD6, hS6⟩; have B6 := bel B5 (hD5.low hS6) hbase))
        go_ret
        exact ⟨rfl, B6⟩
  · have hnz : ¬ (n : Int) ≤ 12 := by omega
    go_enter Try.func5, Try.ntmps5
    go_wp2_with (first
        | (go_at_call 9; refine (awake_any _).mono ?_; rintro e w1 ⟨rfl, hb1⟩))
    go_ret
    exact ⟨rfl, hb1⟩
end Go.Proofs.Ytihcppclfclkhaa
