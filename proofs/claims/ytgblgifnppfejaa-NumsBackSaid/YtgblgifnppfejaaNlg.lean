/- The walk for the statement NumsBack. -/
import Derived.Test.YtgblgifnppfejaaNle
namespace Go.Proofs.Ytgblgifnppfejaa
open Go.RowKit
open Go.NB (Rd Kp Stp Off Dis Rr footR val encU encB digs RdU HasO)

theorem slTI : NB.SlT Try.prog 50 3 (.int .i64 0) 1 8 :=
  ⟨Try.underlying50, info_parts (by kernel_rfl), rfl, by omega⟩

/-- Where each number ends. -/
def endsL (xs : List Nat) (k : Nat) : List Value := (List.range k).map fun i => .int .i64 ((encL (xs.take (i + 1))).length : Int)
theorem endsL_succ (xs : List Nat) (k : Nat) : endsL xs (k + 1) = endsL xs k ++ [.int .i64 ((encL (xs.take (k + 1))).length : Int)] := by
  simp [endsL, List.range_succ]
theorem endsL_at (xs : List Nat) (k i : Nat) (h : i < k) : (endsL xs k)[i]? = some (.int .i64 ((encL (xs.take (i + 1))).length : Int)) := by
  simp [endsL, h]
theorem endsL_one (xs : List Nat) (k : Nat) : ∀ u ∈ endsL xs k, u.oneCell' = true := by
  intro u hu
  obtain ⟨i, _, rfl⟩ := List.mem_map.1 hu
  rfl
theorem encL_app (xs ys : List Nat) : encL (xs ++ ys) = encL xs ++ encL ys := by simp [encL]
theorem encL_split (xs : List Nat) (k : Nat) : encL xs = encL (xs.take k) ++ encL (xs.drop k) := by
  rw [← encL_app, List.take_append_drop]
theorem encL_cons (xs : List Nat) (k : Nat) (h : k < xs.length) : encL (xs.drop k) = encU (xs.getD k 0) ++ encL (xs.drop (k + 1)) := by
  rw [List.drop_eq_getElem_cons h]
  show encL ([xs[k]] ++ _) = _
  rw [encL_app]
  simp [encL, List.getD, h]

/-- What is left for the reader behind 'i' numbers. -/
def leftL (xs : List Nat) (k i : Nat) : List UInt8 := (encL (xs.drop i)).take (k - (encL (xs.take i)).length)
theorem left_0 (xs : List Nat) (k : Nat) : leftL xs k 0 = (encL xs).take k := by simp [leftL, encL]
theorem end_succ (xs : List Nat) (i : Nat) (hi : i < xs.length) : (encL (xs.take (i + 1))).length = (encL (xs.take i)).length + (encU (xs.getD i 0)).length := by
  rw [encL_snoc xs i hi, List.length_append]
theorem left_in (xs : List Nat) (k i : Nat) (hi : i < xs.length) (hk : (encL (xs.take (i + 1))).length ≤ k) : leftL xs k i = encU (xs.getD i 0) ++ leftL xs k (i + 1) := by
  have hl := end_succ xs i hi
  unfold leftL
  rw [encL_cons xs i hi, List.take_append, List.take_of_length_le (by omega)]
  congr 2
  omega
theorem left_out (xs : List Nat) (k i : Nat) (hi : i < xs.length) (hk : k < (encL (xs.take (i + 1))).length) : leftL xs k i = (encU (xs.getD i 0)).take (k - (encL (xs.take i)).length) := by
  have hl := end_succ xs i hi
  unfold leftL
  rw [encL_cons xs i hi, List.take_append_of_le_length (by omega)]
theorem left_end (xs : List Nat) (k : Nat) : leftL xs k xs.length = [] := by simp [leftL, encL]

theorem int_rd (w : World) (x : Int) {g : Nat} (hg : g = w.heap.size) : Rd 1 (w.alloc (.cells #[.int .i64 x] 3)) (some ⟨g, 0, none⟩) 1 1 [.int .i64 x] :=
  NB.rd_new w #[.int .i64 x] 3 1 rfl (by unfold maxLen; omega) hg
theorem int_one (x : Int) : ∀ u ∈ [Value.int .i64 x], u.oneCell' = true := by
  intro u hu
  obtain rfl : u = .int .i64 x := by simpa using hu
  rfl

set_option maxHeartbeats 2000000 in
theorem law_back (w : World) (a : Option Addr) (n c : Nat) (xs : List Nat) (x : Int) (h : RdU w a n c xs) (hx : (Lit.int .u16 x).wf = true) :
    Calls Try.prog 5 #[.slice a n c, .int .u16 x] w fun e w' => e = .returned (.bool true) ∧ Below w.heap.size w w' := by
  have hbd := Rd.bound h.1
  have hsz := h.size
  have bx := bounds_u16 hx
  by_cases hn : n ≤ 40
  · have hnz : (n : Int) ≤ 40 := by omega
    go_enter Try.func5, Try.ntmps5
    go_wp2_with (first
      | (go_at_call 9; refine (awake_any _).mono ?_; rintro e w1 ⟨rfl, hb1⟩)
      | (go_at_call 10; refine (wnew_any _).mono ?_; rintro e w2 ⟨p, F2, rfl, hW2, hb2⟩; have B2 := NB.bel hb1 hb2 hb1.size))
    have hbase := hb1.size
    clear hb2 hb1
    have H := Go.Lib.hid h; clear h
    go_loopw [7, 8] (fun s i wr => ∃ (k : Nat) (F G : Nat → Prop), k ≤ n ∧ i = .int .i64 k ∧ HasO 3 1 wr w1.heap.size G s k (endsL xs k) ∧ HasW wr w1.heap.size p F (encL (xs.take k)) ∧ Dis F G ∧ Below w.heap.size w wr) (fun _ i _ => n - (intOf i).toNat)
    case atStart => exact ⟨0, F2, _, by omega, rfl, NB.hasO_nil _ _ _ _, hW2, (fun _ _ h => h), B2⟩
    case round =>
      clear B2 hW2
      obtain ⟨k, F, G, hk, rfl, hO, hW, hd, hB⟩ := hrel
      have hl := encL_len (xs.take k) (fun x hx => H.out.2 x (List.mem_of_mem_take hx))
      rw [List.length_take] at hl
      obtain ⟨a5, c5, e5, r5, _⟩ := NB.rd_of_own hO.1
      subst e5
      by_cases hlt : k < n
      · obtain ⟨b3, o3, qw, ha⟩ := NB.RdU.at H.out k hlt
        subst ha
        have lw := World.block_lt_of_cell? w _ qw
        have q3 := (hB.cell lw).trans qw
        have hs := encL_snoc xs k (by omega)
        have hes := endsL_succ xs k
        have hx : xs.getD k 0 < 18446744073709551616 := by
          rw [List.getD, List.getElem?_eq_getElem (by omega)]
          exact H.out.2 _ (List.getElem_mem _)
        generalize xs.getD k 0 = x at *
        have hel := NB.encU_len hx
        rw [hs] at hes
        generalize hE : encL (xs.take k) = E at *
        have hEl : (E ++ encU x).length ≤ 1000000 := by rw [List.length_append]; omega
        have HS := Go.Lib.hid hs; have HES := Go.Lib.hid hes; clear hs hes
        generalize hE' : E ++ encU x = E' at *
        have HE' := Go.Lib.hid hE'; clear hE'
        have hki : (k : Int) < (n : Int) := by omega
        go_wp2_with (first
          | (go_at_call 11; refine (wuint_any _ _ _ _ _ x hx hW (by omega)).mono ?_; rw [HE'.out]; rintro e w4 ⟨rfl, F4, hW4, hS4⟩; have B4 := NB.bel hB (hW.low hS4) hbase; have hO4 := hO.keep hS4.kp hd.symm)
          | (go_at_call 15; refine (wout_any _ _ _ _ _ hW4 (by omega)).mono ?_; rintro e w5 ⟨a6, c6, rfl, ho6, hb6⟩; have B5 := NB.bel B4 hb6 B4.size; have hO5 := (hO4.below hb6).below ((Below.refl _ w5).alloc (Nat.le_refl _) (.cells #[.int .i64 (E'.length : Int)] 3)); have hW5 := (hW4.below hb6).below ((Below.refl _ w5).alloc (Nat.le_refl _) (.cells #[.int .i64 (E'.length : Int)] 3)))
          | (at_builtin; refine NB.wpList_append_at rfl (.tmp 33) (.tmp 37) 50 rfl w1.heap.size slTI _ k (endsL xs k) rfl hO5.1 _ 1 1 [.int .i64 (E'.length : Int)] rfl (int_rd w5 _ rfl) (int_one _) (by omega) (by unfold maxLen; omega) hW5.base_le ?_; intro v7 w7 ho7 hg7 hv7; obtain ⟨hO7, hS7⟩ := hO5.grown ho7 hg7 hv7))
        have B6 := B5.alloc B5.size (.cells #[.int .i64 (E'.length : Int)] 3)
        have hd4 : Dis G F4 := hd.symm.step (fun k hk => (hO.foot k hk).2) hS4
        have hd7 := hd4.symm.step (fun k hk => (hW5.foot k hk).2) hS7
        have hW7 := hW5.keep hS7.kp hd4.symm
        have B7 := NB.bel B6 (hS7.low hW5.base_le (fun k hk => (hO5.foot k hk).1)) hbase
        go_roundw
        case rel => exact ⟨k + 1, F4, _, by omega, by go_num, by rw [HES.out]; exact hO7, by rw [HS.out]; exact hW7, hd7, B7⟩
        case measure => simp [intOf]; omega
      · obtain rfl : k = n := by omega
        have htk : xs.take k = xs := List.take_of_length_le (by omega)
        rw [htk] at hW hl
        have hTl : (encL xs).length ≤ 100000000000 := by omega
        obtain ⟨kk, hkk⟩ : ∃ kk : Nat, x % (((encL xs).length : Int) + 1) = (kk : Int) := ⟨(x % (((encL xs).length : Int) + 1)).toNat, by have := Int.emod_nonneg x (show ((encL xs).length : Int) + 1 ≠ 0 by omega); omega⟩
        have hkl : kk ≤ (encL xs).length := by have := Int.emod_lt_of_pos x (show (0 : Int) < ((encL xs).length : Int) + 1 by omega); omega
        have hx0 : 0 ≤ x := bx.1
        have hx1 : x ≤ 65535 := bx.2
        have HTK := Go.Lib.hid htk; clear htk
        go_wp2_with (first
          | (go_at_call 15; refine (wout_any _ _ _ _ _ hW hTl).mono ?_; rintro e w5 ⟨a6, c6, rfl, ho6, hb6⟩; have B5 := NB.bel hB hb6 hB.size; have r6 := (Off.fresh (F := fun _ => False) ho6 (fun _ h => h.elim)).rd; have hc6 := r6.le; have hkc : kk ≤ c6 := Nat.le_trans hkl hc6)
          | (go_at_call 17; refine (rnew_any _ _ _ _ _ (NB.rdB_cut r6 kk hkl) (by omega)).mono ?_; rintro e w6 ⟨q, F6, rfl, hR6, hb7⟩))
        have hb67 := hb7.size
        have hlt5 : ∀ b o, a5 = some ⟨b, o, none⟩ → b < w5.heap.size := fun b o e => by
          have := (hO.foot b (by rw [hO.2]; simp [Value.ownBlock, e])).2
          have := hb6.size
          omega
        have r7 := (r5.below hb6).keep (w' := w6) (fun b o e _ => hb7.block b (hlt5 b o e))
        have B7 := NB.bel B5 hb7 B5.size
        have hb5s := B5.size
        rw [← left_0] at hR6
        clear hb7 hb6 ho6 r6 hW hO hd B5 hB r5 hc6
        go_loopw [12] (fun i wr => ∃ (m : Nat) (F : Nat → Prop), m ≤ k ∧ i = .int .i64 m ∧ HasR wr w5.heap.size q F ⟨leftL xs kk m, 0⟩ ∧ (encL (xs.take m)).length ≤ kk ∧ Rd 1 wr a5 k c5 (endsL xs k) ∧ Below w.heap.size w wr) (fun i _ => k - (intOf i).toNat)
        case atStart => exact ⟨0, F6, by omega, rfl, hR6, by simp [encL], r7, B7⟩
        case round =>
          clear hR6 r7 B7
          obtain ⟨m, F7, hm, rfl, hR, hle, r7, hB⟩ := hrel
          by_cases hmk : m < k
          · have hmki : (m : Int) < (k : Int) := by omega
            obtain ⟨b3, o3, qw, ha⟩ := NB.RdU.at H.out m hmk
            subst ha
            have lw := World.block_lt_of_cell? w _ qw
            have hcw : ∀ W, Below w.heap.size w W → W.cell? ⟨b3, o3 + m, none⟩ = some (.int .u64 ((xs.getD m 0 : Nat) : Int)) := fun W hW => (hW.cell lw).trans qw
            obtain ⟨b5, o5, e5, hc5⟩ := r7.pos (by omega)
            subst e5
            have hlt5' := hlt5 b5 o5 rfl
            have hce : ∀ W, Below w5.heap.size wr W → W.cell? ⟨b5, o5 + m, none⟩ = some (.int .i64 ((encL (xs.take (m + 1))).length : Int)) := fun W hW => (hW.cell (p := ⟨b5, o5 + m, none⟩) hlt5').trans (hc5 m _ (endsL_at xs k m hmk))
            have hxm : xs.getD m 0 < 18446744073709551616 := by
              rw [List.getD, List.getElem?_eq_getElem (by omega)]
              exact H.out.2 _ (List.getElem_mem _)
            have HCW := Go.Lib.hid hcw; have HCE := Go.Lib.hid hce; clear hcw hce qw hc5
            by_cases hout : kk < (encL (xs.take (m + 1))).length
            · have hlo := left_out xs kk m (by omega) hout
              have hus := Rr.uint_short hxm (kk - (encL (xs.take m)).length) (by have := end_succ xs m (by omega); omega)
              rw [← hlo] at hus
              have hoi : (kk : Int) < ((encL (xs.take (m + 1))).length : Int) := by omega
              obtain ⟨hu1, hu2⟩ := hus
              have HU1 := Go.Lib.hid hu1; have HU2 := Go.Lib.hid hu2; clear hu1 hu2 hlo
              go_wp2_with (first
                | (go_at_call 18; refine (ruint_any _ _ _ _ _ hR).mono ?_; rw [show Rr.uint ⟨leftL xs kk m, 0⟩ = ((Rr.uint ⟨leftL xs kk m, 0⟩).1, 0) by rw [← HU2.out]]; rintro e w8 ⟨rfl, F8, hR8, hS8⟩; have q8 := HCE.out w8 (hR.low hS8); have B8 := NB.bel hB (hR.low hS8) hb5s)
                | (go_at_call 24; refine (rerr_any _ _ _ _ _ hR8).mono ?_; rw [HU1.out]; rintro e w' ⟨rfl, e2⟩; subst w'))
              go_ret
              exact ⟨rfl, B8⟩
            · have hli := left_in xs kk m (by omega) (by omega)
              have hue := Rr.uint_enc hxm (leftL xs kk (m + 1))
              rw [← hli] at hue
              have hoi : ¬ (kk : Int) < ((encL (xs.take (m + 1))).length : Int) := by omega
              generalize xs.getD m 0 = y at *
              have HUE := Go.Lib.hid hue; clear hue hli
              go_wp2_with (first
                | (go_at_call 18; refine (ruint_any _ _ _ _ _ hR).mono ?_; rw [HUE.out]; rintro e w8 ⟨rfl, F8, hR8, hS8⟩; have q8 := HCE.out w8 (hR.low hS8); have B8 := NB.bel hB (hR.low hS8) hb5s; have q9 := HCW.out w8 B8)
                | (go_at_call 24; refine (rerr_any _ _ _ _ _ hR8).mono ?_; rintro e w' ⟨rfl, e2⟩; subst w'))
              go_roundw
              case rel => exact ⟨m + 1, F8, by omega, by go_num, hR8, by omega, r7.keep (fun b o e _ => by cases e; exact (hR.low hS8).block _ hlt5'), B8⟩
              case measure => simp [intOf]; omega
          · obtain rfl : m = k := by omega
            have hle2 : leftL xs kk m = [] := by rw [← hsz]; exact left_end xs kk
            rw [hle2] at hR
            go_wp2_with (first
              | (go_at_call 25; refine (rend_any _ _ _ _ _ hR).mono ?_; rw [show Rr.fin ⟨[], 0⟩ = 0 from rfl]; rintro e w' ⟨rfl, e2⟩; subst w'))
            go_ret
            exact ⟨rfl, hB⟩
  · have hnz : ¬ (n : Int) ≤ 40 := by omega
    go_enter Try.func5, Try.ntmps5
    go_wp2_with (first
        | (go_at_call 9; refine (awake_any _).mono ?_; rintro e w1 ⟨rfl, hb1⟩))
    go_ret
    exact ⟨rfl, hb1⟩
end Go.Proofs.Ytgblgifnppfejaa
