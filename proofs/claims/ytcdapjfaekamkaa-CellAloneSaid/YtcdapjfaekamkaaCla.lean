/- The walk for the statement CellAlone. -/
import Derived.Test.YtcdapjfaekamkaaClw
import Derived.Test.YtcdapjfaekamkaaStr
namespace Go.Proofs.Ytcdapjfaekamkaa
open Go.RowKit
open Go.NB (Rd Dk Kp Stp Off Dis val Ce footC)

theorem and1 (m : Nat) (h : m ≤ 1000) : bits .and .i64 (m : Int) 1 = ((m % 2 : Nat) : Int) := by
  have h : bits .and .i64 (m : Int) 1 = (m : Int) % 2 := bits_mask .i64 63 (by decide) (fun n h0 h1 => by rw [IntKind.wrap_i64]; omega) 1 (by decide) _ (by omega) (by omega)
  rw [h]; omega
theorem toC_next (c : Ce) (b : List UInt8) : toC (nextC c b) = if toC c = 0 then 1 else 0 := by
  have : (nextC c b).now = ((toC c : Nat) : Int) := rfl
  rw [toC, this]
  split <;> split <;> omega
/-- What is laid wasn't there. -/
theorem laid_new {n : Nat} {c : Ce} {D : Dk} (h : Sits n c D) (t : List UInt8) (ht : c.top + 1 < 18446744073709551616) (k : Nat) (hk : k ≤ 1) : ¬ laidL (c.top + 1) t = D.l.getD (n + k) [] := by
  intro e
  have h1 := num8_laid (c.top + 1) t ht
  rw [e] at h1
  have htop := pair_top n (D.l.getD n []) (D.l.getD (n + 1) [])
  have hop : c.top = (pairC n (D.l.getD n []) (D.l.getD (n + 1) [])).top := by rw [h.op]; rfl
  have : k = 0 ∨ k = 1 := by omega
  rcases this with rfl | rfl
  · rw [Nat.add_zero] at h1; omega
  · omega

set_option maxRecDepth 100000 in
set_option maxHeartbeats 4000000 in
theorem law_alone (w : World) (a : Option Addr) (n c0 : Nat) (l : List (List UInt8)) (h : NB.RdBB w a n c0 l) :
    Calls Try.prog 5 #[.slice a n c0] w fun e w' => e = .returned (.bool true) ∧ Below w.heap.size w w' := by
  have hbd := NB.RdBB.bound h
  by_cases h20 : 20 < n
  · have h20i : (20 : Int) < (n : Int) := by omega
    go_enter Try.func5, Try.ntmps5
    go_wp2_with (first
      | (go_at_call 8; refine (awake_any _).mono ?_; rintro e w1 ⟨rfl, hb1⟩))
    go_ret
    exact ⟨rfl, hb1⟩
  have h20i : ¬ (20 : Int) < (n : Int) := by omega
  have hs0 := sits_fresh 2 5 (by omega)
  have hop0 : openL 2 (Dk.fresh 5).l = zeroC 2 := hs0.op.symm
  have HS0 := Go.Lib.hid hs0
  have HO0 := Go.Lib.hid hop0
  clear hs0 hop0
  go_enter Try.func5, Try.ntmps5
  go_wp2_with (first
    | (go_at_call 8; refine (awake_any _).mono ?_; rintro e w1 ⟨rfl, hb1⟩)
    | (go_at_call 9; refine (dnew_any _ 5 (by omega) (by omega)).mono ?_; rintro e w2 ⟨p, G, rfl, hD2, hb2⟩)
    | (go_at_call 10; refine (open_calm _ _ p G _ 2 hD2 HS0.out.calm HS0.out.len).mono ?_; rw [HO0.out]; rintro e w3 ⟨q, F, rfl, hC3, hD3, hFG, hq, hF, hb3⟩; have B2 := bel hb1 hb2 hb1.size; have B3 := bel B2 hb3 B2.size))
  have hbase : w.heap.size ≤ w1.heap.size := hb1.size
  clear hD2 hb2 hF hb3 B2 hq
  go_loopw [8] (fun i wr => ∃ (m : Nat) (F G : Nat → Prop) (c : Ce) (D : Dk), m ≤ n ∧ i = .int .i64 m ∧ HasC wr w1.heap.size q p F c ∧ HasD wr w1.heap.size p G D ∧ Dis F G ∧ Sits 2 c D ∧ D.l.length = 5 ∧ c.top = m ∧ toC c = m % 2 ∧ Below w.heap.size w wr) (fun i _ => n - (intOf i).toNat)
  case atStart => exact ⟨0, F, G, zeroC 2, Dk.fresh 5, by omega, rfl, hC3, hD3, hFG, HS0.out, rfl, rfl, rfl, B3⟩
  case round =>
    clear hC3 hD3 hFG B3 HS0 HO0
    obtain ⟨m, F, G, c, D, hm, rfl, hC, hD, hFG, hS, hDl, htp, hto, hB⟩ := hrel
    by_cases hlt : m < n
    · obtain ⟨b3, o3, rfl, hc3⟩ := NB.RdBB.pos h (by omega)
      obtain ⟨ai, ni, ci, q3w, hri0⟩ := hc3 m hlt
      clear hc3
      generalize l.getD m [] = t at *
      have hti := NB.RdB.size hri0
      have hki : (m : Int) < (n : Int) := by omega
      have q3r := (Below.cell hB (World.block_lt_of_cell? _ _ q3w)).trans q3w
      by_cases h43 : 43 < ni
      · have h43i : (43 : Int) < (ni : Int) := by omega
        go_wp2_with fail
        go_ret
        exact ⟨rfl, hB⟩
      have h43i : ¬ (43 : Int) < (ni : Int) := by omega
      obtain ⟨wo, rfl⟩ : ∃ wo : World, wo = wr := ⟨_, rfl⟩
      have hsN := sits_next hS t (by omega) (by omega)
      have hnew := laid_new hS t (by omega) (toC c) (toC_le c)
      have hat := hS.at_.1
      have hdn : (nextD c D t).l = D.l.set (2 + toC c) (laidL (c.top + 1) t) := by rw [nextD, hat]
      rw [hto] at hdn hnew
      obtain ⟨A, hA⟩ : ∃ A, m % 2 = A := ⟨_, rfl⟩
      rw [hA] at hdn hnew
      have hand : bits .and .i64 (m : Int) 1 = (A : Int) := by rw [and1 m (by omega), hA]
      obtain ⟨K, hK⟩ : ∃ K, 2 + A = K := ⟨_, rfl⟩
      have hKi : (2 : Int) + (A : Int) = (K : Int) := by omega
      have hK3 : K ≤ 3 := by omega
      rw [hK] at hdn hnew
      have hnt : (nextC c t).top = m + 1 := by show c.top + 1 = _; omega
      have hnto : toC (nextC c t) = (m + 1) % 2 := by rw [toC_next, hto]; split <;> omega
      have hDN5 : (nextD c D t).l.length = 5 := by rw [hdn, List.length_set]; exact hDl
      generalize hcN : nextC c t = cN at *
      generalize hDN : nextD c D t = DN at *
      generalize laidL (c.top + 1) t = L at *
      have HS := Go.Lib.hid hS
      have HSN := Go.Lib.hid hsN
      have HDN := Go.Lib.hid hdn
      have HNEW := Go.Lib.hid hnew
      have HD5 := Go.Lib.hid hDl
      have HDN5 := Go.Lib.hid hDN5
      have HT := Go.Lib.hid hto
      have HNT := Go.Lib.hid hnto
      clear hS hsN hdn hnew hDl hDN5 hto hnto hA hK
      have hwt : D.waits.length ≤ 1000000 := by rw [HS.out.calm.waits]; exact Nat.zero_le _
      have hwtN : DN.waits.length ≤ 1000000 := by rw [HSN.out.calm.waits]; exact Nat.zero_le _
      go_wp2_with fail
      go_loopw [9, 10] (fun v k wr => ∃ (j : Nat) (H : Nat → Prop), j ≤ 5 ∧ k = .int .i64 j ∧ NB.HasO 9 1 wr wo.heap.size H v j (strsL (D.l.take j)) ∧ Below wo.heap.size wo wr) (fun _ k _ => 5 - (intOf k).toNat)
      case atStart => exact ⟨0, _, by omega, rfl, NB.hasO_nil _ _ _ _, Below.refl _ _⟩
      case round =>
        obtain ⟨j, H, hj, rfl, hO, hB1⟩ := hrel
        by_cases hlt5 : j < 5
        · have hj5 : (j : Int) < 5 := by omega
          have hrd := calm_read HS.out.calm j (by rw [HD5.out]; exact hlt5)
          have h64 := block64 hD j (by rw [HD5.out]; exact hlt5)
          have hss := strs_succ D.l j (by rw [HD5.out]; exact hlt5)
          generalize D.l.getD j [] = X at *
          have HRD := Go.Lib.hid hrd
          have HSS := Go.Lib.hid hss
          clear hrd hss
          have hD1 := hD.below hB1
          go_wp2_with (first
            | (go_at_call 14; refine (dread_any _ _ _ _ _ _ hD1 hwt).mono ?_; rw [HRD.out]; rintro e w5 ⟨a5, k5, rfl, ho5, hb5⟩; have hr5 := (Off.fresh (F := fun _ => False) ho5 (fun _ h => h.elim)).rd; rw [h64] at hr5; have B5 := bel hB1 hb5 hB1.size; have hO5 := (hO.below hb5).below ((Below.refl _ w5).alloc (Nat.le_refl _) (.cells #[.string ⟨X.toArray⟩] 9)); have hsz5 : wo.heap.size ≤ (w5.alloc (.cells #[.string ⟨X.toArray⟩] 9)).heap.size := (B5.alloc B5.size (.cells #[.string ⟨X.toArray⟩] 9)).size)
            | (refine NB.wpList_conv_str rfl 23 9 (.tmp 57) rfl Try.underlying23 Try.underlying5 Try.underlying9 a5 64 k5 X rfl hr5 ?_)
            | (at_builtin; refine NB.wpList_append_at rfl (.tmp 56) (.tmp 59) 38 rfl wo.heap.size slTS _ j (strsL (D.l.take j)) rfl hO5.1 _ 1 1 [strL X] rfl (str_rd w5 _ rfl) (str_one _) (by omega) (by unfold maxLen; omega) hsz5 ?_; intro v7 w7 ho7 hg7 hv7; obtain ⟨hO7, hS7⟩ := hO5.grown ho7 hg7 hv7))
          have B6 := B5.alloc B5.size (.cells #[.string ⟨X.toArray⟩] 9)
          have B7 := bel B6 (hS7.low B6.size (fun k hk => (hO5.foot k hk).1)) (Nat.le_refl _)
          rw [HSS.out] at hO7
          exact ⟨⟨j + 1, _, by omega, by simp, hO7, B7⟩, by simp [intOf]; omega⟩
        · obtain rfl : j = 5 := by omega
          rw [List.take_of_length_le (by rw [HD5.out]; omega)] at hO
          have hC1 := hC.below hB1
          have hD1 := hD.below hB1
          have B1 := bel hB hB1 hB.size
          have q31 := (Below.cell B1 (World.block_lt_of_cell? _ _ q3w)).trans q3w
          have hlo : ∀ k, F k ∨ G k → w.heap.size ≤ k := fun k hk => hk.elim (fun h => Nat.le_trans hbase (hC1.foot k h).1) (fun h => Nat.le_trans hbase (hD1.foot k h).1)
          have hof : Off (fun k => F k ∨ G k) wr ai ni ci t := Off.old hri0 B1 hlo
          go_wp2_with fail
          go_at_call 11
          refine (set_calm _ _ q p F G 2 c D _ _ _ t hC1 hD1 hFG hof (by omega) HS.out (by omega) (by omega)).mono ?_
          rw [hcN, hDN]
          rintro e w8 ⟨rfl, F8, G8, hC8, hD8, hFG8, hS8⟩
          have B8 := bel B1 (hS8.low B1.size hlo) (Nat.le_refl _)
          have hO8 := hO.keep hS8.kp (fun k hk hf => by
            have := (hO.foot k hk).1
            rcases hf with hf | hf
            · have := (hC.foot k hf).2; omega
            · have := (hD.foot k hf).2; omega)
          obtain ⟨av, cv, rfl, hrv, _⟩ := NB.rd_of_own hO8.1
          obtain ⟨bv, ov, rfl, hcv⟩ := Rd.pos hrv (by omega)
          have HCV := Go.Lib.hid hcv
          clear hO hO8 hrv hcv hC1 hD1 q31 hof hlo B1 hS8
          go_wp2_with fail
          go_loopw [13, 14] (fun x k wr => ∃ (j y : Nat), j ≤ 5 ∧ k = .int .i64 j ∧ x = .int .i64 (y : Int) ∧ y = (if j ≤ K then 0 else 1) ∧ Below w8.heap.size w8 wr) (fun _ k _ => 5 - (intOf k).toNat)
          case atStart => exact ⟨0, 0, by omega, rfl, rfl, by simp, Below.refl _ _⟩
          case round =>
            obtain ⟨j, y, hj, rfl, rfl, hy, hB2⟩ := hrel
            have HY := Go.Lib.hid hy
            clear hy
            by_cases hlt5 : j < 5
            · have hj5 : (j : Int) < 5 := by omega
              have hrd := calm_read HSN.out.calm j (by rw [HDN5.out]; exact hlt5)
              have h64 := block64 hD8 j (by rw [HDN5.out]; exact hlt5)
              have q9w : w8.cell? ⟨bv, ov + j, none⟩ = some (.string ⟨(D.l.getD j []).toArray⟩) := HCV.out j (strL (D.l.getD j [])) (by
                have h5 := HD5.out
                rw [strsL, List.getElem?_map, List.getD_eq_getElem?_getD, List.getElem?_eq_getElem (by omega)]; rfl)
              have hneq : (j = K → ¬ DN.l.getD j [] = D.l.getD j []) ∧ (j ≠ K → DN.l.getD j [] = D.l.getD j []) := by
                have h5 := HD5.out
                rw [HDN.out]
                refine ⟨fun e => ?_, fun e => getD_set_ne _ _ _ (Ne.symm e) _⟩
                subst e
                rw [getD_set_self _ _ (by omega)]
                exact HNEW.out
              generalize D.l.getD j [] = X at *
              generalize DN.l.getD j [] = Y at *
              have HRD := Go.Lib.hid hrd
              clear hrd
              have hD9 := hD8.below hB2
              have q9r := (Below.cell hB2 (World.block_lt_of_cell? _ _ q9w)).trans q9w
              go_wp2_with (first
                | (go_at_call 14; refine (dread_any _ _ _ _ _ _ hD9 hwtN).mono ?_; rw [HRD.out]; rintro e w10 ⟨a10, k10, rfl, ho10, hb10⟩; have hr10 := (Off.fresh (F := fun _ => False) ho10 (fun _ h => h.elim)).rd; rw [h64] at hr10; have B10 := bel hB2 hb10 hB2.size; have q9 := (Below.cell hb10 (World.block_lt_of_cell? _ _ q9r)).trans q9r))
              by_cases hjK : j = K
              · have hXY : (Y == X) = false := by simpa using hneq.1 hjK
                clear hneq q9w q9r hD9 ho10 hb10
                subst hjK
                obtain rfl : y = 0 := by rw [HY.out, if_pos (by omega)]
                refine NB.wp_region_m (by kernel_rfl) ?_
                have hr11 := Rd.below hr10 (Below.refl _ w10).drew
                have q911 := (Below.cell (Below.refl _ w10).drew (World.block_lt_of_cell? _ _ q9)).trans q9
                have B11 : Below w8.heap.size w8 w10.drew := B10.drew
                clear hr10 q9 B10
                generalize w10.drew = w11 at *
                refine NB.any_p 0 rfl (by kernel_rfl) (fun K hK => ?_); go_simp; refine hK _ ?_; clear hK K
                refine NB.any_r 1 rfl (by kernel_rfl) rfl _ (fun w' hw' => NB.run_op_conv_str Try.underlying23 Try.underlying5 Try.underlying9 rfl rfl (Rd.below (hr11) hw')) (fun K hK => ?_); go_simp; refine hK _ ?_; clear hK K
                refine NB.any_p 2 rfl (by kernel_rfl) (fun K hK => ?_); go_simp; refine hK _ ?_; clear hK K
                refine NB.any_p 3 rfl (by kernel_rfl) (fun K hK => ?_); go_simp; refine hK _ ?_; clear hK K
                refine NB.any_p 4 rfl (by kernel_rfl) (fun K hK => ?_); go_simp; refine hK _ ?_; clear hK K
                refine NB.any_r 5 rfl (by kernel_rfl) rfl _ (fun w' hw' => NB.run_op_load rfl rfl Try.underlying9 rfl (q911) hw') (fun K hK => ?_); go_simp; refine hK _ ?_; clear hK K
                refine NB.any_p 6 rfl (by kernel_rfl) (fun K hK => ?_); go_simp; refine hK _ ?_; clear hK K
                refine NB.any_end (by kernel_rfl) ?_
                go_wp2_with fail
                exact ⟨⟨j + 1, 1, by omega, by simp, rfl, by rw [if_neg (by omega)], B11⟩, by simp [intOf]; omega⟩
              · have hXY := hneq.2 hjK
                clear hneq q9w q9r hD9 ho10 hb10
                subst hXY
                refine NB.wp_region_m (by kernel_rfl) ?_
                have hr11 := Rd.below hr10 (Below.refl _ w10).drew
                have q911 := (Below.cell (Below.refl _ w10).drew (World.block_lt_of_cell? _ _ q9)).trans q9
                have B11 : Below w8.heap.size w8 w10.drew := B10.drew
                clear hr10 q9 B10
                generalize w10.drew = w11 at *
                refine NB.any_p 0 rfl (by kernel_rfl) (fun K hK => ?_); go_simp; refine hK _ ?_; clear hK K
                refine NB.any_r 1 rfl (by kernel_rfl) rfl _ (fun w' hw' => NB.run_op_conv_str Try.underlying23 Try.underlying5 Try.underlying9 rfl rfl (Rd.below (hr11) hw')) (fun K hK => ?_); go_simp; refine hK _ ?_; clear hK K
                refine NB.any_p 2 rfl (by kernel_rfl) (fun K hK => ?_); go_simp; refine hK _ ?_; clear hK K
                refine NB.any_p 3 rfl (by kernel_rfl) (fun K hK => ?_); go_simp; refine hK _ ?_; clear hK K
                refine NB.any_p 4 rfl (by kernel_rfl) (fun K hK => ?_); go_simp; refine hK _ ?_; clear hK K
                refine NB.any_r 5 rfl (by kernel_rfl) rfl _ (fun w' hw' => NB.run_op_load rfl rfl Try.underlying9 rfl (q911) hw') (fun K hK => ?_); go_simp; refine hK _ ?_; clear hK K
                refine NB.any_p 6 rfl (by kernel_rfl) (fun K hK => ?_); go_simp; refine hK _ ?_; clear hK K
                refine NB.any_end (by kernel_rfl) ?_
                go_wp2_with fail
                exact ⟨⟨j + 1, y, by omega, by simp, rfl, by rw [HY.out]; split <;> split <;> omega, B11⟩, by simp [intOf]; omega⟩
            · obtain rfl : j = 5 := by omega
              obtain rfl : y = 1 := by rw [HY.out, if_neg (by omega)]
              have B2 := bel B8 hB2 B8.size
              have hC9 := hC8.below hB2
              have hD9 := hD8.below hB2
              go_wp2_with fail
              exact ⟨⟨m + 1, F8, G8, cN, DN, by omega, by simp, hC9, hD9, hFG8, HSN.out, HDN5.out, hnt, HNT.out, B2⟩, by simp [intOf]; omega⟩
    · obtain rfl : m = n := by omega
      go_wp2_with (first
        | (go_at_call 15; refine (dwaits_any _ _ _ _ _ hD).mono ?_; rw [hS.calm.waits]; rintro e w' ⟨rfl, e2⟩; subst w'))
      go_ret
      exact ⟨rfl, hB⟩
end Go.Proofs.Ytcdapjfaekamkaa
