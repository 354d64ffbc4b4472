/- The walk for the statement SegmentRoom. -/
import Derived.Test.YtmgkaoenjnnlmaaSgw
import Derived.Test.YtmgkaoenjnnlmaaSgx
namespace Go.Proofs.Ytmgkaoenjnnlmaa
open Go.RowKit
open Go.NB (Rd Dk Kp Stp Off Dis val oneB dB I64)

theorem made_b (v : Value) (n : Nat) : (madeCells #[v] n).toList = List.replicate n v := by
  have e2 : ∀ x : Nat, (#[v] : Array Value)[x % (#[v] : Array Value).size]! = v := by
    intro x
    rw [show x % (#[v] : Array Value).size = 0 from Nat.mod_one x]
    rfl
  unfold madeCells
  simp only [e2]
  simp [List.map_const']
theorem offW_made {w0 wb w2 : World} {t : TypeId} {K g : Nat} (ho : w2.ownsRow wb.heap.size t 1 (.slice (some ⟨g, 0, none⟩) K K) K (madeCells (Value.int .u8 0).cells (K * 1)).toList) (hg : wb.grownBy w2 none) :
    OffW w0 wb w2 (some ⟨g, 0, none⟩) K K (List.replicate K 0) ∧ Below wb.heap.size wb w2 := by
  refine ⟨?_, (Below.refl _ wb).grown hg (Nat.le_refl _) (by rintro k hk; cases hk)⟩
  obtain ⟨a2, c2, e2, hr2, hl2, _⟩ := NB.rd_of_own ho
  cases e2
  rw [show (Value.int IntKind.u8 0).cells = #[.int .u8 0] from rfl, Nat.mul_one, made_b] at hr2
  refine ⟨?_, fun k o e _ => .inr (hl2 k o e).1⟩
  show Rd 1 _ _ _ _ ((List.replicate K 0).map NB.u8v)
  rw [List.map_replicate]
  exact hr2
theorem RoomI.free {k u m : Nat} {D : Dk} {S : Sg} (h : RoomI k u m D S) : (S.n : Int) - (S.used : Int) = ((k - u : Nat) : Int) := by
  have := h.le
  rw [h.n, h.u]; omega

set_option maxRecDepth 100000 in
set_option maxHeartbeats 4000000 in
theorem law_room (w : World) (x : Int) (a : Option Addr) (n c : Nat) (bs : List UInt8) (hx : (Lit.int .u8 x).wf = true) (h : NB.RdB w a n c bs) :
    Calls Try.prog 6 #[.int .u8 x, .slice a n c] w fun e w' => e = .returned (.bool true) ∧ Below w.heap.size w w' := by
  have hbd := Rd.bound h
  have hsz := NB.RdB.size h
  obtain ⟨i, hi, hz, hszi, hby⟩ := slTB.hi
  by_cases h30 : 30 < n
  · have h30i : (30 : Int) < (n : Int) := by omega
    go_enter Try.func6, Try.ntmps6
    go_wp2_with (first
      | (go_at_call 9; refine (awake_any _).mono ?_; rintro e w1 ⟨rfl, hb1⟩))
    go_ret
    exact ⟨rfl, hb1⟩
  have h30i : ¬ (30 : Int) < (n : Int) := by omega
  have hxb := bounds_u8 hx
  obtain ⟨x, rfl⟩ := Int.eq_ofNat_of_zero_le hxb.1
  obtain ⟨k, hk⟩ : ∃ k, x % 20 + 1 = k := ⟨_, rfl⟩
  have hk1 : 1 ≤ k := by omega
  have hk2 : k ≤ 20 := by omega
  have hki : (x : Int) % 20 + 1 = (k : Int) := by omega
  obtain ⟨hop, hI⟩ := room_begin k hk1 (by omega)
  obtain ⟨D0, hD0⟩ : ∃ D0, Dk.fresh k = D0 := ⟨_, rfl⟩
  have hnew := fun w1 hb => qd_new w w1 hb k hk1 (by omega)
  unfold NewDd at hnew
  rw [hD0] at hop hI hnew
  obtain ⟨S0, hS0⟩ : ∃ S0, openS D0 0 (k : Int) = S0 := ⟨_, rfl⟩
  rw [hS0] at hI
  have HI := Go.Lib.hid hI
  have HOP := Go.Lib.hid hop
  have HNEW := Go.Lib.hid hnew
  have HS0 := Go.Lib.hid hS0
  have HSZ := Go.Lib.hid hsz
  have HBY := Go.Lib.hid hby
  have hw0 := hI.waits
  have i0 : I64 0 := i64_nat (k := 0) (by omega)
  have ik : I64 (k : Int) := i64_nat (by omega)
  clear hI hop hnew hS0 hD0 hk hx hsz
  go_enter Try.func6, Try.ntmps6
  go_wp2_with (first
    | (go_at_call 9; refine (awake_any _).mono ?_; rintro e w1 ⟨rfl, hb1⟩)
    | (go_at_call 10; refine (HNEW.out _ hb1).mono ?_; rintro e w2 ⟨p, rfl, hD⟩))
  go_at_call 11
  refine (qs_open w _ p D0 0 k hD (by omega) i0 ik).mono ?_
  rintro e w3 (⟨hbad, _⟩ | ⟨_, q, rfl, hS⟩)
  · exact absurd HOP.out hbad
  rw [HS0.out] at hS
  clear hD
  go_wp2_with fail
  go_loopw [11, 12, 13] (fun u v j wr => ∃ (m us mn : Nat) (D : Dk) (S : Sg), m ≤ n ∧ u = .int .i64 us ∧ v = .int .i64 mn ∧ j = .int .i64 m ∧ mn ≤ m ∧ us ≤ k ∧ Sd w wr q p D S ∧ RoomI k us mn D S) (fun _ _ j _ => n - (intOf j).toNat)
  case atStart => exact ⟨0, 0, 0, D0, S0, by omega, rfl, rfl, rfl, by omega, by omega, hS, HI.out⟩
  case round =>
    clear hS HI HS0 HOP hw0
    obtain ⟨m, us, mn, D, S, hm, rfl, rfl, rfl, hmn, hus, hS, hI⟩ := hrel
    have hlow := hS.low
    have hwt := hI.waits
    have HI := Go.Lib.hid hI
    clear hI
    by_cases hlt : m < n
    · have hlti : (m : Int) < (n : Int) := by omega
      obtain ⟨b4, o4, rfl, hc4⟩ := NB.RdB.at h (by omega)
      have q4w := hc4 m hlt
      clear hc4
      obtain ⟨Z, hZ⟩ : ∃ Z, (bs.getD m 0).toNat = Z := ⟨_, rfl⟩
      have hZ2 : Z ≤ 255 := by have := (bs.getD m 0).toNat_lt; omega
      rw [hZ] at q4w
      clear hZ
      have q4 := (Below.cell hlow (World.block_lt_of_cell? _ _ q4w)).trans q4w
      by_cases hZ0 : Z = 0
      · subst hZ0
        obtain ⟨M, hM⟩ : ∃ M, M = needM 0 := ⟨_, rfl⟩
        obtain rfl : M = 1 := hM.trans (by decide)
        have HN := Go.Lib.hid hM
        clear hM
        by_cases hfit : us + 1 ≤ k
        · have hfiti : ¬ (k : Int) < (us : Int) + 1 := by omega
          obtain ⟨D2, S2, hap, hI2⟩ := room_step HI.out (List.replicate 0 0) (by rw [List.length_replicate]; omega) (by rw [List.length_replicate, ← HN.out]; exact hfit)
          rw [List.length_replicate, ← HN.out] at hI2
          have hfr := hI2.free
          have hln := hI2.m
          have hwt2 := hI2.waits
          have HAP := Go.Lib.hid hap
          have HI2 := Go.Lib.hid hI2
          have HFR := Go.Lib.hid hfr
          have HLN := Go.Lib.hid hln
          clear hap hI2 hfr hln
          go_wp2_with (at_make; refine wpList_make_full wr rfl (.tmp 68) (.tmp 68) 23 rfl wr.heap.size 5 i (.int .u8 0) 1 slTB.ht hi hz hszi .i64 .i64 _ _ 0 rfl rfl (by simp) (by simp) (by rw [hby]; omega) (by unfold maxLen; omega) (Nat.le_refl _) ?_; intro w4 ho2 hg2; obtain ⟨of2, bl2⟩ := offW_made (w0 := w) ho2 hg2; clear ho2 hg2)
          go_at_call 12
          refine (qs_app w wr w4 q p D S _ 0 _ (List.replicate 0 0) hS bl2 of2 (by omega) (by omega)).mono ?_
          rw [HAP.out]
          rintro e w5 ⟨rfl, hS5⟩
          have q5 := (Below.cell hS5.low (World.block_lt_of_cell? _ _ q4w)).trans q4w
          have hsub : (k : Int) - ((us : Int) + 1) = ((k - (us + 1) : Nat) : Int) := by omega
          go_wp2_with (first
            | (go_at_call 18; refine (qs_free w _ q p D2 S2 hS5).mono ?_; rw [HFR.out]; rintro e w6 ⟨rfl, hS6, hb6⟩; have q6 := (Below.cell hb6 (World.block_lt_of_cell? _ _ q5)).trans q5)
            | (go_at_call 15; refine (qs_len w _ q p D2 S2 hS6).mono ?_; rw [HLN.out]; rintro e w' ⟨rfl, e2⟩; subst w')
            | (go_at_call 20; refine (need_any _ 0 (by omega)).mono ?_; rw [← HN.out]; rintro e w' ⟨rfl, e2⟩; subst w'))
          exact ⟨⟨m + 1, us + 1, mn + 1, D2, S2, by omega, by simp, by simp, by simp, by omega, by omega, hS6, HI2.out⟩, by simp [intOf]; omega⟩
        · have hfiti : (k : Int) < (us : Int) + 1 := by omega
          have hap := room_full HI.out (List.replicate 0 0) (by rw [List.length_replicate]; omega) (by rw [List.length_replicate, ← HN.out]; exact hfit)
          have hfr := HI.out.free
          have hln := HI.out.m
          have HAP := Go.Lib.hid hap
          have HFR := Go.Lib.hid hfr
          have HLN := Go.Lib.hid hln
          clear hap hfr hln
          go_wp2_with (at_make; refine wpList_make_full wr rfl (.tmp 68) (.tmp 68) 23 rfl wr.heap.size 5 i (.int .u8 0) 1 slTB.ht hi hz hszi .i64 .i64 _ _ 0 rfl rfl (by simp) (by simp) (by rw [hby]; omega) (by unfold maxLen; omega) (Nat.le_refl _) ?_; intro w4 ho2 hg2; obtain ⟨of2, bl2⟩ := offW_made (w0 := w) ho2 hg2; clear ho2 hg2)
          go_at_call 12
          refine (qs_app w wr w4 q p D S _ 0 _ (List.replicate 0 0) hS bl2 of2 (by omega) (by omega)).mono ?_
          rw [HAP.out]
          rintro e w5 ⟨rfl, hS5⟩
          have q5 := (Below.cell hS5.low (World.block_lt_of_cell? _ _ q4w)).trans q4w
          go_wp2_with (first
            | (go_at_call 18; refine (qs_free w _ q p D S hS5).mono ?_; rw [HFR.out]; rintro e w6 ⟨rfl, hS6, hb6⟩; have q6 := (Below.cell hb6 (World.block_lt_of_cell? _ _ q5)).trans q5)
            | (go_at_call 15; refine (qs_len w _ q p D S hS6).mono ?_; rw [HLN.out]; rintro e w' ⟨rfl, e2⟩; subst w')
            | (go_at_call 20; refine (need_any _ 0 (by omega)).mono ?_; rw [← HN.out]; rintro e w' ⟨rfl, e2⟩; subst w'))
          exact ⟨⟨m + 1, us, mn, D, S, by omega, by simp, by simp, by simp, by omega, by omega, hS6, HI.out⟩, by simp [intOf]; omega⟩
      · have hY1 : 1 ≤ (Z + 44) / 45 := by omega
        obtain ⟨M, hM⟩ : ∃ M, M = needM Z := ⟨_, rfl⟩
        have hMq : ((Z : Int) + 44) / 45 = (M : Int) := by rw [hM]; unfold needM; omega
        have hM0 : ((M : Int) == 0) = false := by rw [hM]; unfold needM; simp
        have hM9 : M ≤ 9 := by rw [hM]; unfold needM; omega
        have HN := Go.Lib.hid hM
        clear hM
        by_cases hfit : us + M ≤ k
        · have hfiti : ¬ (k : Int) < (us : Int) + (M : Int) := by omega
          obtain ⟨D2, S2, hap, hI2⟩ := room_step HI.out (List.replicate Z 0) (by rw [List.length_replicate]; omega) (by rw [List.length_replicate, ← HN.out]; exact hfit)
          rw [List.length_replicate, ← HN.out] at hI2
          have hfr := hI2.free
          have hln := hI2.m
          have hwt2 := hI2.waits
          have HAP := Go.Lib.hid hap
          have HI2 := Go.Lib.hid hI2
          have HFR := Go.Lib.hid hfr
          have HLN := Go.Lib.hid hln
          clear hap hI2 hfr hln
          go_wp2_with (at_make; refine wpList_make_full wr rfl (.tmp 68) (.tmp 68) 23 rfl wr.heap.size 5 i (.int .u8 0) 1 slTB.ht hi hz hszi .i64 .i64 _ _ Z rfl rfl (by simp) (by simp) (by rw [hby]; omega) (by unfold maxLen; omega) (Nat.le_refl _) ?_; intro w4 ho2 hg2; obtain ⟨of2, bl2⟩ := offW_made (w0 := w) ho2 hg2; clear ho2 hg2)
          go_at_call 12
          refine (qs_app w wr w4 q p D S _ Z _ (List.replicate Z 0) hS bl2 of2 (by omega) (by omega)).mono ?_
          rw [HAP.out]
          rintro e w5 ⟨rfl, hS5⟩
          have q5 := (Below.cell hS5.low (World.block_lt_of_cell? _ _ q4w)).trans q4w
          have hsub : (k : Int) - ((us : Int) + (M : Int)) = ((k - (us + M) : Nat) : Int) := by omega
          go_wp2_with (first
            | (go_at_call 18; refine (qs_free w _ q p D2 S2 hS5).mono ?_; rw [HFR.out]; rintro e w6 ⟨rfl, hS6, hb6⟩; have q6 := (Below.cell hb6 (World.block_lt_of_cell? _ _ q5)).trans q5)
            | (go_at_call 15; refine (qs_len w _ q p D2 S2 hS6).mono ?_; rw [HLN.out]; rintro e w' ⟨rfl, e2⟩; subst w')
            | (go_at_call 20; refine (need_any _ Z (by omega)).mono ?_; rw [← HN.out]; rintro e w' ⟨rfl, e2⟩; subst w'))
          exact ⟨⟨m + 1, us + M, mn + 1, D2, S2, by omega, by simp, by simp, by simp, by omega, by omega, hS6, HI2.out⟩, by simp [intOf]; omega⟩
        · have hfiti : (k : Int) < (us : Int) + (M : Int) := by omega
          have hap := room_full HI.out (List.replicate Z 0) (by rw [List.length_replicate]; omega) (by rw [List.length_replicate, ← HN.out]; exact hfit)
          have hfr := HI.out.free
          have hln := HI.out.m
          have HAP := Go.Lib.hid hap
          have HFR := Go.Lib.hid hfr
          have HLN := Go.Lib.hid hln
          clear hap hfr hln
          go_wp2_with (at_make; refine wpList_make_full wr rfl (.tmp 68) (.tmp 68) 23 rfl wr.heap.size 5 i (.int .u8 0) 1 slTB.ht hi hz hszi .i64 .i64 _ _ Z rfl rfl (by simp) (by simp) (by rw [hby]; omega) (by unfold maxLen; omega) (Nat.le_refl _) ?_; intro w4 ho2 hg2; obtain ⟨of2, bl2⟩ := offW_made (w0 := w) ho2 hg2; clear ho2 hg2)
          go_at_call 12
          refine (qs_app w wr w4 q p D S _ Z _ (List.replicate Z 0) hS bl2 of2 (by omega) (by omega)).mono ?_
          rw [HAP.out]
          rintro e w5 ⟨rfl, hS5⟩
          have q5 := (Below.cell hS5.low (World.block_lt_of_cell? _ _ q4w)).trans q4w
          go_wp2_with (first
            | (go_at_call 18; refine (qs_free w _ q p D S hS5).mono ?_; rw [HFR.out]; rintro e w6 ⟨rfl, hS6, hb6⟩; have q6 := (Below.cell hb6 (World.block_lt_of_cell? _ _ q5)).trans q5)
            | (go_at_call 15; refine (qs_len w _ q p D S hS6).mono ?_; rw [HLN.out]; rintro e w' ⟨rfl, e2⟩; subst w')
            | (go_at_call 20; refine (need_any _ Z (by omega)).mono ?_; rw [← HN.out]; rintro e w' ⟨rfl, e2⟩; subst w'))
          exact ⟨⟨m + 1, us, mn, D, S, by omega, by simp, by simp, by simp, by omega, by omega, hS6, HI.out⟩, by simp [intOf]; omega⟩
    · obtain rfl : m = n := by omega
      have hlti : ¬ (m : Int) < (m : Int) := by omega
      have hap := app_big (D := D) (S := S) (b := List.replicate 4097 0) (by rw [List.length_replicate]; omega)
      have HAP := Go.Lib.hid hap
      clear hap
      go_wp2_with fail
      go_at_call 12
      refine (sapp_nil _ none 0 0 (by omega)).mono ?_
      rintro e w' ⟨rfl, e2⟩
      subst w'
      go_wp2_with (first
        | (go_at_call 17; refine (srd_nil _ 0).mono ?_; rintro e w' ⟨rfl, e2⟩; subst w')
        | (at_make; refine wpList_make_full wr rfl (.const (.int .i64 4097)) (.const (.int .i64 4097)) 23 rfl wr.heap.size 5 i (.int .u8 0) 1 slTB.ht hi hz hszi .i64 .i64 _ _ 4097 rfl rfl (by simp) (by simp) (by rw [hby]; omega) (by unfold maxLen; omega) (Nat.le_refl _) ?_; intro w4 ho2 hg2; obtain ⟨of2, bl2⟩ := offW_made (w0 := w) ho2 hg2; clear ho2 hg2))
      go_at_call 12
      refine (qs_app w wr w4 q p D S _ 4097 _ (List.replicate 4097 0) hS bl2 of2 (by omega) (by omega)).mono ?_
      rw [HAP.out]
      rintro e w5 ⟨rfl, hS5⟩
      go_wp2_with (first
        | (go_at_call 13; refine (ssync_nil _).mono ?_; rintro e w' ⟨rfl, e2⟩; subst w')
        | (go_at_call 15; refine (slen_nil _).mono ?_; rintro e w' ⟨rfl, e2⟩; subst w')
        | (go_at_call 16; refine (ssure_nil _).mono ?_; rintro e w' ⟨rfl, e2⟩; subst w')
        | (go_at_call 18; refine (sfree_nil _).mono ?_; rintro e w' ⟨rfl, e2⟩; subst w')
        | (go_at_call 21; refine (strim_nil _ 1).mono ?_; rintro e w' ⟨rfl, e2⟩; subst w'))
      go_ret
      exact ⟨rfl, hS5.low⟩
end Go.Proofs.Ytmgkaoenjnnlmaa
