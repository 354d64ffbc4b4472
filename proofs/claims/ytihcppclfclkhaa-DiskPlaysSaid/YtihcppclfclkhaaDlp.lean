/- The walk for the statement DiskPlays. -/
import Derived.Test.YtihcppclfclkhaaDlb
import Derived.Test.YtihcppclfclkhaaPl
import Derived.Test.YtihcppclfclkhaaRfg6
import Derived.Test.YtihcppclfclkhaaOpena
namespace Go.Proofs.Ytihcppclfclkhaa
open Go.RowKit
open Go.NB (Rd Dk Kp Stp Off Dis)

theorem filled_len (b : List UInt8) (odd : Bool) : (filledL b odd).length ≤ 64 := by
  have h1 : (padL b (min 64 b.length)).length = 64 := padL_len b _ (Nat.min_le_right _ _) (Nat.min_le_left _ _)
  unfold filledL
  simp only
  split <;> split <;> simp [h1]
theorem write_waits' (D : Dk) (i : Int) (b : List UInt8) : (D.write i b).1.waits.length ≤ D.waits.length + 1 := by
  unfold Dk.write
  split
  · exact Nat.le_succ _
  split
  · exact Nat.le_succ _
  split
  · exact Nat.le_succ _
  · simp
theorem sync_waits' (D : Dk) : D.sync.1.waits.length ≤ D.waits.length := by
  unfold Dk.sync
  split
  · exact Nat.le_refl _
  split
  · exact Nat.le_refl _
  · exact Nat.zero_le _
theorem HasD.facts {w : World} {base p : Nat} {F : Nat → Prop} {D : Dk} (h : HasD w base p F D) : (-1 ≤ D.left ∧ D.left ≤ 9223372036854775807) ∧ D.l.length ≤ 65536 := by
  obtain ⟨bl, vW, h, _⟩ := h
  exact ⟨h.left, h.n⟩

set_option maxRecDepth 100000 in
set_option maxHeartbeats 16000000 in
theorem law_dplays (w : World) (i0 : Int) (a : Option Addr) (n c : Nat) (w0 : (Lit.int .i64 i0).wf = true) (h : NB.ActsD w a n c) :
    Calls Try.prog 7 #[.int .i64 i0, .slice a n c] w fun e w' => e = .returned (.bool true) ∧ Below w.heap.size w w' := by
  obtain ⟨hnc, hcm, hacts⟩ := h
  have hbd : n ≤ 9223372036854775807 ∧ c ≤ 9223372036854775807 := by unfold maxLen at hcm; omega
  by_cases h40 : 40 < i0
  · go_enter Try.func7, Try.ntmps7
    go_wp2_with (first
      | (go_at_call 9; refine (awake_any _).mono ?_; rintro e w1 ⟨rfl, hb1⟩))
    go_ret
    exact ⟨rfl, hb1⟩
  by_cases h1 : i0 < 1
  · go_enter Try.func7, Try.ntmps7
    go_wp2_with (first
      | (go_at_call 9; refine (awake_any _).mono ?_; rintro e w1 ⟨rfl, hb1⟩)
      | (go_at_call 10; refine (new_bad _ i0 (.inl h1)).mono ?_; rintro e w2 ⟨rfl, e2⟩; subst w2)
      | (go_at_call 18; refine (rnew_bad _ i0 (.inl h1)).mono ?_; unfold rdV; rintro e w3 ⟨rfl, hb3⟩; have B3 := bel hb1 hb3 hb1.size))
    have B4 := B3.alloc B3.size (.cells #[.slice none 0 0, .slice none 0 0, .int .i64 0, .bool false] 45)
    generalize w3.alloc (.cells #[.slice none 0 0, .slice none 0 0, .int .i64 0, .bool false] 45) = w4 at *
    go_loopw [10] (fun x wr => x = .int .i64 0 ∧ wr = w4) (fun x _ => 0)
    case atStart => exact ⟨rfl, rfl⟩
    case round =>
      obtain ⟨rfl, rfl⟩ := hrel
      by_cases h0 : 0 < n
      · have h0i : (0 : Int) < (n : Int) := by omega
        go_wp2_with fail
        go_ret
        exact ⟨rfl, B4⟩
      · have h0i : ¬ (0 : Int) < (n : Int) := by omega
        go_wp2_with fail
        go_ret
        exact ⟨rfl, B4⟩
  obtain ⟨N0, rfl⟩ := Int.eq_ofNat_of_zero_le (show 0 ≤ i0 by omega)
  have hN1 : 1 ≤ N0 := by omega
  have hN40 : N0 ≤ 40 := by omega
  have hfl : (Dk.fresh N0).waits.length = 0 := rfl
  obtain ⟨D0, hD0⟩ : ∃ D0, Dk.fresh N0 = D0 := ⟨_, rfl⟩
  have hnew := fun w => dnew_any w N0 hN1 (by omega)
  have hrnew := fun w => rnew_any w N0 hN1 (by omega)
  unfold MadeD at hnew
  rw [hD0] at hnew hrnew hfl
  have HFL := Go.Lib.hid hfl
  clear hfl
  have HNEW := Go.Lib.hid hnew
  have HRN := Go.Lib.hid hrnew
  clear hnew hrnew hD0
  go_enter Try.func7, Try.ntmps7
  go_wp2_with (first
    | (go_at_call 9; refine (awake_any _).mono ?_; rintro e w1 ⟨rfl, hb1⟩)
    | (go_at_call 10; refine (HNEW.out _).mono ?_; rintro e w2 ⟨p, F, rfl, hD2, hb2⟩; have B2 := bel hb1 hb2 hb1.size)
    | (go_at_call 18; refine (HRN.out _).mono ?_; rintro e w3 ⟨v3, rfl, hr3, hb3, hl3⟩; have B3 := bel B2 hb3 B2.size; have hr30 := hr3; obtain ⟨a1, c1, a2, c2, rfl, _, _⟩ := hr3; unfold rdV))
  have hbase : w.heap.size ≤ w1.heap.size := hb1.size
  have hob := oneB w3 (.cells #[.slice a1 D0.l.length c1, .slice a2 D0.waits.length c2, .int .i64 D0.left, .bool D0.down] 45)
  have B4 := bel B3 hob B3.size
  have hR4 : Rw (w3.alloc (.cells #[.slice a1 D0.l.length c1, .slice a2 D0.waits.length c2, .int .i64 D0.left, .bool D0.down] 45)) w3.heap.size [.slice a1 D0.l.length c1, .slice a2 D0.waits.length c2, .int .i64 D0.left, .bool D0.down] 45 := rw_new w3 [.slice a1 D0.l.length c1, .slice a2 D0.waits.length c2, .int .i64 D0.left, .bool D0.down] _ rfl
  have hP : Pl (w3.alloc (.cells #[.slice a1 D0.l.length c1, .slice a2 D0.waits.length c2, .int .i64 D0.left, .bool D0.down] 45)) w1.heap.size p w3.heap.size F D0 D0 a1 c1 a2 c2 :=
    ⟨(hD2.below hb3).below hob, fun hf => by have := ((hD2.below hb3).foot _ hf).2; omega, hR4, hr30.below hob, fun k hk => by
      have hlow := hr30.low k hk
      rcases hl3 k hk with h1 | h1
      · obtain ⟨_, _, _, _, _, _, _, _, _, e, _⟩ := h1
        exact nomatch e
      · exact ⟨fun hf => by have := (hD2.foot k hf).2; omega, by omega⟩⟩
  have hgw : w.heap.size ≤ w3.heap.size := B3.size
  clear hD2 hb2 hr30 hb3 hl3 B2 B3 hob hR4
  generalize hg : w3.heap.size = g at *
  generalize w3.alloc (.cells #[.slice a1 D0.l.length c1, .slice a2 D0.waits.length c2, .int .i64 D0.left, .bool D0.down] 45) = w4 at *
  clear hg
  go_loopw [10] (fun x wr => ∃ (k : Nat) (D : Dk) (F : Nat → Prop) (a1 : Option Addr) (c1 : Nat) (a2 : Option Addr) (c2 : Nat), k ≤ n ∧ x = .int .i64 k ∧ Pl wr w1.heap.size p g F D D a1 c1 a2 c2 ∧ D.waits.length ≤ k ∧ Below w.heap.size w wr) (fun x _ => n - (intOf x).toNat)
  case atStart => exact ⟨0, D0, F, a1, c1, a2, c2, by omega, rfl, hP, by rw [HFL.out]; exact Nat.le_refl _, B4⟩
  case round =>
    clear hP B4
    obtain ⟨k, D, F, a1, c1, a2, c2, hk, rfl, P, hwk, hB⟩ := hrel
    by_cases hlt : k < n
    case neg =>
      have hki : ¬ (k : Int) < (n : Int) := by omega
      go_wp2_with fail
      go_ret
      exact ⟨rfl, hB⟩
    have hki : (k : Int) < (n : Int) := by omega
    by_cases hk40 : k < 40
    case neg =>
      have hk40i : ¬ (k : Int) < 40 := by omega
      go_wp2_with fail
      go_ret
      exact ⟨rfl, hB⟩
    have hk40i : (k : Int) < 40 := by omega
    obtain ⟨b, o, K, I, N, a', n', c', bs, rfl, q0w, q1w, q2w, q3w, wK, wI, wN, hbs0⟩ := hacts k hlt
    have hbl := NB.RdB.size hbs0
    have hbb := Rd.bound hbs0
    have q0 := (Below.cell hB (World.block_lt_of_cell? _ _ q0w)).trans q0w
    have q1 := (Below.cell hB (World.block_lt_of_cell? _ _ q1w)).trans q1w
    have q2 := (Below.cell hB (World.block_lt_of_cell? _ _ q2w)).trans q2w
    have q3 := (Below.cell hB (World.block_lt_of_cell? _ _ q3w)).trans q3w
    clear q0w q1w q2w q3w
    by_cases h80 : 80 < n'
    · have h80i : (80 : Int) < (n' : Int) := by omega
      go_wp2_with fail
      go_ret
      exact ⟨rfl, hB.alloc hB.size _⟩
    have h80i : ¬ (80 : Int) < (n' : Int) := by omega
    obtain ⟨hlf, hln⟩ := P.d.facts
    have hl64 := P.d.l64
    have hw64 := P.d.w64
    have RAe : Rw (wr.alloc (.cells #[.int .i64 K, .int .i64 I, .int .i64 N, .slice a' n' c'] 49)) wr.heap.size [.int .i64 K, .int .i64 I, .int .i64 N, .slice a' n' c'] 49 := rw_new wr [.int .i64 K, .int .i64 I, .int .i64 N, .slice a' n' c'] _ rfl
    have hob := oneB wr (.cells #[.int .i64 K, .int .i64 I, .int .i64 N, .slice a' n' c'] 49)
    have Pe := P.below hob
    have Be := bel hB hob hB.size
    have hnA : ¬ F wr.heap.size := fun hf => by have := (P.d.foot _ hf).2; omega
    obtain ⟨we, hwe⟩ : ∃ we, wr.alloc (.cells #[.int .i64 K, .int .i64 I, .int .i64 N, .slice a' n' c'] 49) = we := ⟨_, rfl⟩
    rw [hwe] at RAe Pe Be
    obtain ⟨m0, m1, m2, m3, _, _, _, _⟩ := rw4 RAe
    obtain ⟨kv, hkv⟩ : ∃ kv, bits .and .i64 K 15 = kv := ⟨_, rfl⟩
    have HL64 := Go.Lib.hid hl64
    have HW64 := Go.Lib.hid hw64
    clear hl64 hw64 hob P hB hacts
    by_cases hA : kv = 0 ∨ kv = 1 ∨ kv = 2 ∨ kv = 3 ∨ kv = 4 ∨ kv = 5 ∨ kv = 6
    · rcases hA with rfl | rfl | rfl | rfl | rfl | rfl | rfl
      all_goals
        go_wp2_with fail

        go_at_call 11
        refine (filled_any _ a' n' c' bs _ (Rd.below hbs0 Be)).mono ?_
        rintro e w5 ⟨a5, k5, rfl, ho5, hb5⟩
        have P5 := Pe.below hb5
        have B5 := bel Be hb5 Be.size
        have RA5 := RAe.below hb5
        have hX : (filledL bs (N == 1)).length ≤ 64 := filled_len _ _
        have hofX : Off F w5 a5 (filledL bs (N == 1)).length k5 (filledL bs (N == 1)) := Off.fresh ho5 (fun k hk => (Pe.d.foot k hk).2)
        generalize filledL bs (N == 1) = X at *
        clear m0 m1 m2 m3
        obtain ⟨m0, m1, m2, m3, _, _, _, _⟩ := rw4 RA5
        obtain ⟨E, A, hE⟩ : ∃ E A, D.write I X = (E, A) := ⟨_, _, rfl⟩
        have hww := write_waits' D I X
        rw [hE] at hww
        simp only at hww
        have HE := Go.Lib.hid hE
        have hAA : (A != A) = false := by simp
        clear hE
        go_wp2_with fail
        go_at_call 12
        refine (dwrite_any _ _ p F D I _ _ _ X P5.d hofX (by omega)).mono ?_
        rw [HE.out]
        rintro e w6 ⟨rfl, F6, hD6, hS6⟩
        have hrX := (hofX.step hS6).rd

        have P6 := P5.real hS6 hD6
        have RA6 := RA5.keep hS6.kp hnA
        have B6 := bel B5 (hS6.low B5.size (fun k hk => Nat.le_trans hbase (P5.d.foot k hk).1)) (Nat.le_refl _)
        clear m0 m1 m2 m3
        obtain ⟨m0, m1, m2, m3, _, _, _, _⟩ := rw4 RA6
        obtain ⟨y0, y1, y2, y3, _, _, _, _⟩ := rw4 P6.row

        have hrw := rwriteR w6 _ D I X P6.ref hlf.1 hlf.2 (by omega) (by omega)
        rw [HE.out] at hrw
        unfold rdV strL at hrw
        have HRW := Go.Lib.hid hrw
        clear hrw
        go_wp2_with (first
          | (refine NB.wpList_conv_str rfl 22 9 (.tmp 95) rfl Try.underlying22 Try.underlying5 Try.underlying9 a5 _ k5 X rfl hrX ?_))
        go_at_call 19
        refine HRW.out.mono ?_
        rintro e w7 ⟨v7, rfl, hr7, hb7, hl7⟩

        obtain ⟨z0, z1, z2, z3, s0, s1, s2, s3⟩ := rw4 (P6.row.below hb7)
        have B7 := bel B6 hb7 B6.size
        obtain ⟨b1, d1, b2, d2, rfl, P8⟩ := P6.put hb7 hr7 hl7
        unfold rdV
        clear y0 y1 y2 y3 m0 m1 m2 m3

        have B8 : Below w.heap.size w ((((w7.setCell ⟨g, 0, none⟩ (.slice b1 E.l.length d1)).setCell ⟨g, 1, none⟩ (.slice b2 E.waits.length d2)).setCell ⟨g, 2, none⟩ (.int .i64 E.left)).setCell ⟨g, 3, none⟩ (.bool E.down)) := (((B7.setCell (p := ⟨g, 0, none⟩) hgw _).setCell (p := ⟨g, 1, none⟩) hgw _).setCell (p := ⟨g, 2, none⟩) hgw _).setCell (p := ⟨g, 3, none⟩) hgw _
        go_wp2_with fail
        go_at_call 24
        refine (alike_any _ _ p F6 E _ P8.d P8.ref (by omega)).mono ?_
        rintro e w9 ⟨rfl, hb9⟩
        have P9 := P8.below hb9
        have B9 := bel B8 hb9 B8.size
        go_wp2_with fail
        exact ⟨⟨k + 1, E, F6, b1, d1, b2, d2, by omega, by simp, P9, by omega, B9⟩, by simp [intOf]; omega⟩
    by_cases hB : kv = 7 ∨ kv = 8 ∨ kv = 9
    · rcases hB with rfl | rfl | rfl
      all_goals
        go_wp2_with fail

        have P5 := Pe
        have B5 := Be
        have RA5 := RAe
        obtain ⟨E, A, hE⟩ : ∃ E A, D.sync = (E, A) := ⟨_, _, rfl⟩
        have hww := sync_waits' D
        rw [hE] at hww
        simp only at hww
        have HE := Go.Lib.hid hE
        have hAA : (A != A) = false := by simp
        clear hE
        go_at_call 13
        refine (dsync_any _ _ p F D P5.d (by omega)).mono ?_
        rw [HE.out]
        rintro e w6 ⟨rfl, F6, hD6, hS6⟩

        have P6 := P5.real hS6 hD6
        have RA6 := RA5.keep hS6.kp hnA
        have B6 := bel B5 (hS6.low B5.size (fun k hk => Nat.le_trans hbase (P5.d.foot k hk).1)) (Nat.le_refl _)
        clear m0 m1 m2 m3
        obtain ⟨m0, m1, m2, m3, _, _, _, _⟩ := rw4 RA6
        obtain ⟨y0, y1, y2, y3, _, _, _, _⟩ := rw4 P6.row

        have hrw := rsync_any w6 _ D P6.ref hlf.1 hlf.2 hln (by omega) (fun x hx => (HW64.out x hx).2)
        rw [HE.out] at hrw
        unfold rdV at hrw
        have HRW := Go.Lib.hid hrw
        clear hrw
        go_wp2_with fail
        go_at_call 20
        refine HRW.out.mono ?_
        rintro e w7 ⟨v7, rfl, hr7, hb7, hl7⟩

        obtain ⟨z0, z1, z2, z3, s0, s1, s2, s3⟩ := rw4 (P6.row.below hb7)
        have B7 := bel B6 hb7 B6.size
        obtain ⟨b1, d1, b2, d2, rfl, P8⟩ := P6.put hb7 hr7 hl7
        unfold rdV
        clear y0 y1 y2 y3 m0 m1 m2 m3

        have B8 : Below w.heap.size w ((((w7.setCell ⟨g, 0, none⟩ (.slice b1 E.l.length d1)).setCell ⟨g, 1, none⟩ (.slice b2 E.waits.length d2)).setCell ⟨g, 2, none⟩ (.int .i64 E.left)).setCell ⟨g, 3, none⟩ (.bool E.down)) := (((B7.setCell (p := ⟨g, 0, none⟩) hgw _).setCell (p := ⟨g, 1, none⟩) hgw _).setCell (p := ⟨g, 2, none⟩) hgw _).setCell (p := ⟨g, 3, none⟩) hgw _
        go_wp2_with fail
        go_at_call 24
        refine (alike_any _ _ p F6 E _ P8.d P8.ref (by omega)).mono ?_
        rintro e w9 ⟨rfl, hb9⟩
        have P9 := P8.below hb9
        have B9 := bel B8 hb9 B8.size
        go_wp2_with fail
        exact ⟨⟨k + 1, E, F6, b1, d1, b2, d2, by omega, by simp, P9, by omega, B9⟩, by simp [intOf]; omega⟩
    by_cases hC : kv = 10 ∨ kv = 11
    · rcases hC with rfl | rfl
      all_goals
        go_wp2_with fail

        have P5 := Pe
        have B5 := Be
        have RA5 := RAe
        go_at_call 21
        refine (dstop_any _ _ p F D N (bounds_i64 wN).2 P5.d).mono ?_
        obtain ⟨E, hE⟩ : ∃ E, D.stop N = E := ⟨_, rfl⟩
        have hww : E.waits.length ≤ D.waits.length := by rw [← hE]; exact Nat.le_refl _
        have HE := Go.Lib.hid hE
        clear hE
        rw [HE.out]
        rintro e w6 ⟨rfl, F6, hD6, hS6⟩

        have P6 := P5.real hS6 hD6
        have RA6 := RA5.keep hS6.kp hnA
        have B6 := bel B5 (hS6.low B5.size (fun k hk => Nat.le_trans hbase (P5.d.foot k hk).1)) (Nat.le_refl _)
        clear m0 m1 m2 m3
        obtain ⟨m0, m1, m2, m3, _, _, _, _⟩ := rw4 RA6
        obtain ⟨y0, y1, y2, y3, _, _, _, _⟩ := rw4 P6.row

        have hrw := rstopR w6 _ D N P6.ref
        rw [HE.out] at hrw
        unfold rdV at hrw
        have HRW := Go.Lib.hid hrw
        clear hrw
        go_wp2_with fail
        go_at_call 22
        refine HRW.out.mono ?_
        rintro e w7 ⟨v7, rfl, hr7, hb7, hl7⟩

        obtain ⟨z0, z1, z2, z3, s0, s1, s2, s3⟩ := rw4 (P6.row.below hb7)
        have B7 := bel B6 hb7 B6.size
        obtain ⟨b1, d1, b2, d2, rfl, P8⟩ := P6.put hb7 hr7 hl7
        unfold rdV
        clear y0 y1 y2 y3 m0 m1 m2 m3

        have B8 : Below w.heap.size w ((((w7.setCell ⟨g, 0, none⟩ (.slice b1 E.l.length d1)).setCell ⟨g, 1, none⟩ (.slice b2 E.waits.length d2)).setCell ⟨g, 2, none⟩ (.int .i64 E.left)).setCell ⟨g, 3, none⟩ (.bool E.down)) := (((B7.setCell (p := ⟨g, 0, none⟩) hgw _).setCell (p := ⟨g, 1, none⟩) hgw _).setCell (p := ⟨g, 2, none⟩) hgw _).setCell (p := ⟨g, 3, none⟩) hgw _
        go_wp2_with fail
        go_at_call 24
        refine (alike_any _ _ p F6 E _ P8.d P8.ref (by omega)).mono ?_
        rintro e w9 ⟨rfl, hb9⟩
        have P9 := P8.below hb9
        have B9 := bel B8 hb9 B8.size
        go_wp2_with fail
        exact ⟨⟨k + 1, E, F6, b1, d1, b2, d2, by omega, by simp, P9, by omega, B9⟩, by simp [intOf]; omega⟩
    have e0 : (kv == 0) = false := by simp; omega
    have e1 : (kv == 1) = false := by simp; omega
    have e2 : (kv == 2) = false := by simp; omega
    have e3 : (kv == 3) = false := by simp; omega
    have e4 : (kv == 4) = false := by simp; omega
    have e5 : (kv == 5) = false := by simp; omega
    have e6 : (kv == 6) = false := by simp; omega
    have e7 : (kv == 7) = false := by simp; omega
    have e8 : (kv == 8) = false := by simp; omega
    have e9 : (kv == 9) = false := by simp; omega
    have e10 : (kv == 10) = false := by simp; omega
    have e11 : (kv == 11) = false := by simp; omega
    clear hA hB hC
    go_wp2_with fail

    have P5 := Pe
    have B5 := Be
    have RA5 := RAe
    have hofB : Off F we a' n' c' bs := Off.old hbs0 Be (fun k hk => Nat.le_trans hbase (Pe.d.foot k hk).1)
    go_at_call 15
    refine (dcrash_any _ _ p F D _ _ _ bs P5.d hofB (by omega)).mono ?_
    obtain ⟨E, hE⟩ : ∃ E, D.crash bs = E := ⟨_, rfl⟩
    have hww : E.waits.length ≤ D.waits.length := by rw [← hE]; exact Nat.zero_le _
    have HE := Go.Lib.hid hE
    clear hE
    rw [HE.out]
    rintro e w6 ⟨rfl, F6, hD6, hS6⟩
    have hrX := (hofB.step hS6).rd

    have P6 := P5.real hS6 hD6
    have RA6 := RA5.keep hS6.kp hnA
    have B6 := bel B5 (hS6.low B5.size (fun k hk => Nat.le_trans hbase (P5.d.foot k hk).1)) (Nat.le_refl _)
    clear m0 m1 m2 m3
    obtain ⟨m0, m1, m2, m3, _, _, _, _⟩ := rw4 RA6
    obtain ⟨y0, y1, y2, y3, _, _, _, _⟩ := rw4 P6.row

    have hrw := rcrash_any w6 _ D bs P6.ref hln (by omega) HL64.out HW64.out (by omega)
    rw [HE.out] at hrw
    unfold rdV strL at hrw
    have HRW := Go.Lib.hid hrw
    clear hrw
    go_wp2_with (first
      | (refine NB.wpList_conv_str rfl 22 9 (.tmp 69) rfl Try.underlying22 Try.underlying5 Try.underlying9 a' n' c' bs rfl hrX ?_))
    go_at_call 23
    refine HRW.out.mono ?_
    rintro e w7 ⟨v7, rfl, hr7, hb7, hl7⟩

    obtain ⟨z0, z1, z2, z3, s0, s1, s2, s3⟩ := rw4 (P6.row.below hb7)
    have B7 := bel B6 hb7 B6.size
    obtain ⟨b1, d1, b2, d2, rfl, P8⟩ := P6.put hb7 hr7 hl7
    unfold rdV
    clear y0 y1 y2 y3 m0 m1 m2 m3

    have B8 : Below w.heap.size w ((((w7.setCell ⟨g, 0, none⟩ (.slice b1 E.l.length d1)).setCell ⟨g, 1, none⟩ (.slice b2 E.waits.length d2)).setCell ⟨g, 2, none⟩ (.int .i64 E.left)).setCell ⟨g, 3, none⟩ (.bool E.down)) := (((B7.setCell (p := ⟨g, 0, none⟩) hgw _).setCell (p := ⟨g, 1, none⟩) hgw _).setCell (p := ⟨g, 2, none⟩) hgw _).setCell (p := ⟨g, 3, none⟩) hgw _
    go_wp2_with fail
    go_at_call 24
    refine (alike_any _ _ p F6 E _ P8.d P8.ref (by omega)).mono ?_
    rintro e w9 ⟨rfl, hb9⟩
    have P9 := P8.below hb9
    have B9 := bel B8 hb9 B8.size
    go_wp2_with fail
    exact ⟨⟨k + 1, E, F6, b1, d1, b2, d2, by omega, by simp, P9, by omega, B9⟩, by simp [intOf]; omega⟩
end Go.Proofs.Ytihcppclfclkhaa
