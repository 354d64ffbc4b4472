/- The references on frames, walked: Put, Get. -/
import Derived.Test.YtcipghogcehfnaaFrb
import Derived.Test.YtcipghogcehfnaaNrg
import Derived.Test.YtcipghogcehfnaaRsa
import Derived.Test.YtcipghogcehfnaaTee
namespace Go.Proofs.Ytcipghogcehfnaa
open Go.RowKit
open Go.NB (Rd Kp Stp Off Dis Rr encU oneB dB Rw digs)

/-- A string and an error, in whatever later world. -/
def StrE (w : World) (r : List UInt8 × Int) (e : Ending) (w' : World) : Prop := e = .returned (.tuple #[.string ⟨r.1.toArray⟩, .int .i64 r.2]) ∧ Below w.heap.size w w'

set_option maxHeartbeats 1000000 in
theorem rfput_any (w : World) (k : UInt8) (b : List UInt8) (hb : b.length ≤ 100000000) :
    Calls Try.prog 15 #[.agg #[.int .u8 (k.toNat : Int), .string ⟨b.toArray⟩]] w (StrE w (fputM (k, b))) := by
  have hrow := NB.rw_new w [.int .u8 (k.toNat : Int), .string ⟨b.toArray⟩] 30 rfl
  have hB := oneB w (.cells #[.int .u8 (k.toNat : Int), .string ⟨b.toArray⟩] 30)
  simp only [List.toArray] at hrow
  by_cases h0 : 65535 < b.length
  · have hq : fputM (k, b) = ([], 13) := fput_big (by simp only; omega)
    rw [hq]
    have h0' : (65535 : Int) < (b.length : Int) := by omega
    go_enter Try.func15, Try.ntmps15
    go_wp2
    go_ret2
    exact ⟨rfl, hB⟩
  · have hq : fputM (k, b) = (sealedL (encU b.length ++ [k] ++ b), 0) := fput_is (by simp only; omega)
    rw [hq]
    have h0' : ¬ (65535 : Int) < (b.length : Int) := by omega
    have hx9 := NB.encU_len (x := b.length) (by omega)
    have hZ : (encU b.length ++ [k] ++ b).length ≤ 100000 := by simp; omega
    have cs := fun w => rsealed_any w (encU b.length ++ [k] ++ b) (by omega)
    rw [rsealed_eq] at cs
    rw [List.append_assoc, List.singleton_append] at cs
    have hI : (encU b.length ++ [k] ++ b) = encU b.length ++ k :: b := by simp
    rw [hI]
    have kl1 : (1 : Nat) ≤ maxLen := by unfold maxLen; omega
    clear hI hZ hq
    have hA1 : ¬ 9223372036854775807 < (encU b.length).length + 1 := by omega
    have hA2 : ¬ 9223372036854775807 < (encU b.length).length + 1 + b.length := by omega
    have hwr : IntKind.u64.wrap (b.length : Int) = (b.length : Int) := by rw [IntKind.wrap_u64]; omega
    go_enter Try.func15, Try.ntmps15
    go_wp2_with fail
    generalize w.alloc (.cells #[.int .u8 (k.toNat : Int), .string ⟨b.toArray⟩] 30) = w1 at *
    refine NB.wp_region_t [] (by kernel_rfl) ?_
    have row1 := hrow.below (dB w1)
    have B1 := hB.drew
    clear hrow hB
    generalize w1.drew = w2 at *
    obtain ⟨c0, c1, _⟩ := NB.rw2 row1
    refine NB.t_p 0 rfl (by kernel_rfl) (fun K hK => ?_); go_simp; refine hK _ ?_; clear hK K
    refine NB.t_r 1 [2, 3, 4, 9, 12, 13, 14, 15] rfl (by kernel_rfl) (by kernel_rfl) rfl _ (fun w' hw' => NB.run_op_load rfl rfl Try.underlying9 rfl c1 hw') (fun K hK => ?_); go_simp; refine hK _ ?_; clear hK K
    refine NB.t_p 2 rfl (by kernel_rfl) (fun K hK => ?_); go_simp; refine hK _ ?_; clear hK K
    refine NB.t_p 3 rfl (by kernel_rfl) (fun K hK => ?_); go_simp; refine hK _ ?_; clear hK K
    refine NB.t_p 5 rfl (by kernel_rfl) (fun K hK => ?_); go_simp; refine hK _ ?_; clear hK K
    refine NB.t_r 6 [7, 8, 9, 12, 13, 14, 15] rfl (by kernel_rfl) (by kernel_rfl) rfl _ (fun w' hw' => NB.run_op_load rfl rfl Try.underlying5 rfl c0 hw') (fun K hK => ?_); go_simp; refine hK _ ?_; clear hK K
    refine NB.t_p 10 rfl (by kernel_rfl) (fun K hK => ?_); go_simp; refine hK _ ?_; clear hK K
    refine NB.t_r 11 [12, 13, 14, 15] rfl (by kernel_rfl) (by kernel_rfl) rfl _ (fun w' hw' => NB.run_op_load rfl rfl Try.underlying9 rfl c1 hw') (fun K hK => ?_); go_simp; refine hK _ ?_; clear hK K
    refine NB.t_e2 4 7 rfl rfl (by kernel_rfl) (by kernel_rfl) (by kernel_rfl) (fun K hK => ?_) (fun K hK => ?_)
    · unfold NB.tmoves; go_simp; refine (ruintR_any _ b.length (by omega)).mono ?_; rintro e w3 ⟨rfl, hb3⟩; refine ⟨_, rfl, hb3, hK _ _ ?_⟩; clear hK K
      refine NB.t_e 7 rfl (by kernel_rfl) (by kernel_rfl) (fun K hK => ?_); unfold NB.tmoves; go_simp; refine ⟨oneB _ _, hK _ _ ?_⟩; clear hK K
      have r4 := NB.rdB_lit (w := w3) (fr := (0, 0)) (t := 5) [k] (cs := #[.int .u8 (k.toNat : Int)]) rfl rfl kl1 rfl
      refine NB.t_r 8 [9, 12, 13, 14, 15] rfl (by kernel_rfl) (by kernel_rfl) rfl _ (fun w' hw' => NB.run_op_conv_str Try.underlying22 Try.underlying5 Try.underlying9 rfl rfl (Rd.below r4 hw')) (fun K hK => ?_); go_simp; refine hK _ ?_; clear hK K
      refine NB.t_p 9 rfl (by kernel_rfl) (fun K hK => ?_); go_simp; refine hK _ ?_; clear hK K
      refine NB.t_p 12 rfl (by kernel_rfl) (fun K hK => ?_); go_simp; refine hK _ ?_; clear hK K
      refine NB.t_e 13 rfl (by kernel_rfl) (by kernel_rfl) (fun K hK => ?_); unfold NB.tmoves; go_simp; refine (cs _).mono ?_; rintro e w5 ⟨rfl, hb5⟩; refine ⟨_, rfl, by simpa using hb5, hK _ _ ?_⟩; clear hK K
      refine NB.t_p 14 rfl (by kernel_rfl) (fun K hK => ?_); go_simp; refine hK _ ?_; clear hK K
      refine NB.t_p 15 rfl (by kernel_rfl) (fun K hK => ?_); go_simp; refine hK _ ?_; clear hK K
      refine NB.t_end (by kernel_rfl) ?_
      go_wp2_with fail
      go_ret2
      have B3 := NB.bel B1 hb3 B1.size
      have B4 := NB.bel B3 (oneB w3 (.cells #[.int .u8 (k.toNat : Int)] 5)) B3.size
      exact ⟨rfl, NB.bel B4 hb5 B4.size⟩
    · unfold NB.tmoves; go_simp; refine ⟨oneB _ _, hK _ _ ?_⟩; clear hK K
      have r4 := NB.rdB_lit (w := w2) (fr := (0, 0)) (t := 5) [k] (cs := #[.int .u8 (k.toNat : Int)]) rfl rfl kl1 rfl
      refine NB.t_r 8 [9, 12, 13, 14, 15] rfl (by kernel_rfl) (by kernel_rfl) rfl _ (fun w' hw' => NB.run_op_conv_str Try.underlying22 Try.underlying5 Try.underlying9 rfl rfl (Rd.below r4 hw')) (fun K hK => ?_); go_simp; refine hK _ ?_; clear hK K
      refine NB.t_e 4 rfl (by kernel_rfl) (by kernel_rfl) (fun K hK => ?_); unfold NB.tmoves; go_simp; refine (ruintR_any _ b.length (by omega)).mono ?_; rintro e w4 ⟨rfl, hb4⟩; refine ⟨_, rfl, by simpa using hb4, hK _ _ ?_⟩; clear hK K
      refine NB.t_p 9 rfl (by kernel_rfl) (fun K hK => ?_); go_simp; refine hK _ ?_; clear hK K
      refine NB.t_p 12 rfl (by kernel_rfl) (fun K hK => ?_); go_simp; refine hK _ ?_; clear hK K
      refine NB.t_e 13 rfl (by kernel_rfl) (by kernel_rfl) (fun K hK => ?_); unfold NB.tmoves; go_simp; refine (cs _).mono ?_; rintro e w5 ⟨rfl, hb5⟩; refine ⟨_, rfl, by simpa using hb5, hK _ _ ?_⟩; clear hK K
      refine NB.t_p 14 rfl (by kernel_rfl) (fun K hK => ?_); go_simp; refine hK _ ?_; clear hK K
      refine NB.t_p 15 rfl (by kernel_rfl) (fun K hK => ?_); go_simp; refine hK _ ?_; clear hK K
      refine NB.t_end (by kernel_rfl) ?_
      go_wp2_with fail
      go_ret2
      have B3 := NB.bel B1 (oneB w2 (.cells #[.int .u8 (k.toNat : Int)] 5)) B1.size
      have B4 := NB.bel B3 hb4 B3.size
      exact ⟨rfl, NB.bel B4 hb5 B4.size⟩
def RGetE (w : World) (r : Fr × Nat × Int) (e : Ending) (w' : World) : Prop :=
  e = .returned (.tuple #[.agg #[.int .u8 (r.1.1.toNat : Int), .string ⟨r.1.2.toArray⟩], .int .i64 (r.2.1 : Int), .int .i64 r.2.2]) ∧ Below w.heap.size w w'

set_option maxHeartbeats 1000000 in
theorem rfget_any (w : World) (b : List UInt8) (hl : b.length ≤ 100000000) :
    Calls Try.prog 11 #[.string ⟨b.toArray⟩] w (RGetE w (fgetM b)) := by
  have ctr := fun w => refRead_any w ⟨b, 0⟩ hl
  unfold refR RefRU at ctr
  rcases get_ways b with ⟨e, he, h0, hm⟩ | ⟨x, l, -, -, hu, hb, hm⟩ | ⟨x, l, -, hu, hb, hll, hm⟩ | ⟨x, l, h, hu, hb, hll, hrr, hm⟩ | ⟨x, k, l, h, hu, hb, hll, hrr, hm⟩
  · rw [hm]
    have he' : (e != 0) = true := by simp [h0]
    generalize Rr.uint ⟨b, 0⟩ = u at *
    obtain ⟨⟨ub, ue⟩, un⟩ := u
    simp only at he ctr
    subst he
    clear h0 hm
    go_enter Try.func11, Try.ntmps11
    go_wp2_with fail
    refine (ctr _).mono ?_
    rintro e2 w1 ⟨rfl, hb1⟩
    have hA1 := (NB.rw_new w [.int .u8 0, .string ⟨#[]⟩] 30 rfl).below hb1
    have B1 := NB.bel (oneB _ _) hb1 (oneB w (.cells #[.int .u8 0, .string ⟨#[]⟩] 30)).size
    clear hb1
    go_wp2_with fail
    have hR2 := NB.rw_new w1 [.string ⟨ub.toArray⟩, .int .i64 ue] 55 rfl
    have ob := oneB w1 (.cells #[.string ⟨ub.toArray⟩, .int .i64 ue] 55)
    have hA2 := hA1.below ob
    have B2 := NB.bel B1 ob B1.size
    have hne : w1.heap.size ≠ w.heap.size := by have := hA1.lt; omega
    simp only [List.toArray] at hR2
    obtain ⟨c0, c1, f0, f1⟩ := NB.rw2 hR2
    clear hA1 B1 ob
    go_wp2_with fail
    generalize w1.alloc (.cells #[.string ⟨ub.toArray⟩, .int .i64 ue] 55) = w2 at *
    obtain ⟨d0, d1, g0, g1⟩ := NB.rw2 hA2
    have hltA := hA2.lt
    go_region
    all_goals go_wp2
    have BF := (B2.setCell (p := ⟨w.heap.size, 0, none⟩) (Nat.le_refl _) (.int .u8 0)).setCell (p := ⟨w.heap.size, 1, none⟩) (Nat.le_refl _) (.string ⟨#[]⟩)
    refine bodyPost_ret (v := .tuple #[.agg #[.int .u8 0, .string ⟨#[]⟩], .int .i64 0, .int .i64 ue]) (by simp [results, Try.results11, go_sem, d0, d1, hltA]) rfl ?_
    exact ⟨rfl, BF.drew⟩
  · rw [hm]
    rw [hu] at ctr
    simp only at ctr
    have hb' : (65535 : Int) < (x : Int) := by omega
    clear hm hu
    go_enter Try.func11, Try.ntmps11
    go_wp2_with fail
    refine (ctr _).mono ?_
    rintro e2 w1 ⟨rfl, hb1⟩
    have hA1 := (NB.rw_new w [.int .u8 0, .string ⟨#[]⟩] 30 rfl).below hb1
    have B1 := NB.bel (oneB _ _) hb1 (oneB w (.cells #[.int .u8 0, .string ⟨#[]⟩] 30)).size
    clear hb1
    have hR2 := NB.rw_new w1 [.string ⟨l.toArray⟩, .int .i64 0] 55 rfl
    have ob := oneB w1 (.cells #[.string ⟨l.toArray⟩, .int .i64 0] 55)
    have hA2 := hA1.below ob
    have B2 := NB.bel B1 ob B1.size
    have hne : w1.heap.size ≠ w.heap.size := by have := hA1.lt; omega
    simp only [List.toArray] at hR2
    obtain ⟨c0, c1, f0, f1⟩ := NB.rw2 hR2
    obtain ⟨d0, d1, g0, g1⟩ := NB.rw2 hA2
    have hltA := hA2.lt
    clear hA1 B1 ob
    go_wp2_with fail
    generalize w1.alloc (.cells #[.string ⟨l.toArray⟩, .int .i64 0] 55) = w2 at *
    have BF := (B2.setCell (p := ⟨w.heap.size, 0, none⟩) (Nat.le_refl _) (.int .u8 0)).setCell (p := ⟨w.heap.size, 1, none⟩) (Nat.le_refl _) (.string ⟨#[]⟩)
    refine bodyPost_ret (v := .tuple #[.agg #[.int .u8 0, .string ⟨#[]⟩], .int .i64 0, .int .i64 13]) (by simp [results, Try.results11, go_sem, d0, d1, hltA]) rfl ?_
    exact ⟨rfl, BF⟩
  · rw [hm]
    rw [hu] at ctr
    simp only at ctr
    have hb' : ¬ (65535 : Int) < (x : Int) := by omega
    have hs' : (l.length : Int) < (x : Int) + 5 := by omega
    have hw' : IntKind.i64.wrap (x : Int) = (x : Int) := by rw [IntKind.wrap_i64]; omega
    clear hm hu
    go_enter Try.func11, Try.ntmps11
    go_wp2_with fail
    refine (ctr _).mono ?_
    rintro e2 w1 ⟨rfl, hb1⟩
    have hA1 := (NB.rw_new w [.int .u8 0, .string ⟨#[]⟩] 30 rfl).below hb1
    have B1 := NB.bel (oneB _ _) hb1 (oneB w (.cells #[.int .u8 0, .string ⟨#[]⟩] 30)).size
    clear hb1
    have hR2 := NB.rw_new w1 [.string ⟨l.toArray⟩, .int .i64 0] 55 rfl
    have ob := oneB w1 (.cells #[.string ⟨l.toArray⟩, .int .i64 0] 55)
    have hA2 := hA1.below ob
    have B2 := NB.bel B1 ob B1.size
    have hne : w1.heap.size ≠ w.heap.size := by have := hA1.lt; omega
    simp only [List.toArray] at hR2
    obtain ⟨c0, c1, f0, f1⟩ := NB.rw2 hR2
    obtain ⟨d0, d1, g0, g1⟩ := NB.rw2 hA2
    have hltA := hA2.lt
    clear hA1 B1 ob
    go_wp2_with fail
    generalize w1.alloc (.cells #[.string ⟨l.toArray⟩, .int .i64 0] 55) = w2 at *
    have BF := (B2.setCell (p := ⟨w.heap.size, 0, none⟩) (Nat.le_refl _) (.int .u8 0)).setCell (p := ⟨w.heap.size, 1, none⟩) (Nat.le_refl _) (.string ⟨#[]⟩)
    refine bodyPost_ret (v := .tuple #[.agg #[.int .u8 0, .string ⟨#[]⟩], .int .i64 0, .int .i64 10]) (by simp [results, Try.results11, go_sem, d0, d1, hltA]) rfl ?_
    exact ⟨rfl, BF⟩
  · rw [hm]
    rw [hu] at ctr
    simp only at ctr
    have hb' : ¬ (65535 : Int) < (x : Int) := by omega
    have hs' : ¬ (l.length : Int) < (x : Int) + 5 := by omega
    have hw' : IntKind.i64.wrap (x : Int) = (x : Int) := by rw [IntKind.wrap_i64]; omega
    have hbl : (b.length : Int) - (l.length : Int) = ((encU x).length : Int) := by
      have := congrArg List.length h
      simp at this
      omega
    have hle : (encU x).length + x + 5 ≤ b.length := by
      have := congrArg List.length h
      simp at this
      omega
    have crr := fun w => rright_any w (b.take ((encU x).length + x + 5)) (by simp; omega)
    rw [rright_eq, hrr] at crr
    generalize (encU x).length = X at *
    have hle2 : (X : Int) + (x : Int) + 5 ≤ (b.length : Int) := by omega
    have hle3 : (0 : Int) ≤ (X : Int) + (x : Int) + 5 := by omega
    have e5 : ((X : Int) + (x : Int) + 5).toNat = X + x + 5 := by omega
    clear hm hu hrr h
    go_enter Try.func11, Try.ntmps11
    go_wp2_with fail
    refine (ctr _).mono ?_
    rintro e2 w1 ⟨rfl, hb1⟩
    have hA1 := (NB.rw_new w [.int .u8 0, .string ⟨#[]⟩] 30 rfl).below hb1
    have B1 := NB.bel (oneB _ _) hb1 (oneB w (.cells #[.int .u8 0, .string ⟨#[]⟩] 30)).size
    clear hb1
    have hR2 := NB.rw_new w1 [.string ⟨l.toArray⟩, .int .i64 0] 55 rfl
    have ob := oneB w1 (.cells #[.string ⟨l.toArray⟩, .int .i64 0] 55)
    have hA2 := hA1.below ob
    have B2 := NB.bel B1 ob B1.size
    have hne : w1.heap.size ≠ w.heap.size := by have := hA1.lt; omega
    simp only [List.toArray] at hR2
    obtain ⟨c0, c1, f0, f1⟩ := NB.rw2 hR2
    obtain ⟨d0, d1, g0, g1⟩ := NB.rw2 hA2
    have hltA := hA2.lt
    clear hA1 B1 ob
    go_wp2_with fail
    generalize w1.alloc (.cells #[.string ⟨l.toArray⟩, .int .i64 0] 55) = w2 at *
    refine (crr _).mono ?_
    rintro e3 w3 ⟨rfl, hb3⟩
    have hA3 := hA2.below hb3
    have hR3 := hR2.below hb3
    have B3 := NB.bel B2 hb3 B2.size
    clear c0 c1 f0 f1 d0 d1 g0 g1 hA2 hR2 B2 hb3 hltA
    obtain ⟨c0, c1, f0, f1⟩ := NB.rw2 hR3
    obtain ⟨d0, d1, g0, g1⟩ := NB.rw2 hA3
    have hltA := hA3.lt
    go_wp2_with fail
    have BF := (B3.setCell (p := ⟨w.heap.size, 0, none⟩) (Nat.le_refl _) (.int .u8 0)).setCell (p := ⟨w.heap.size, 1, none⟩) (Nat.le_refl _) (.string ⟨#[]⟩)
    refine bodyPost_ret (v := .tuple #[.agg #[.int .u8 0, .string ⟨#[]⟩], .int .i64 0, .int .i64 14]) (by simp [results, Try.results11, go_sem, d0, d1, hltA]) rfl ?_
    exact ⟨rfl, BF⟩
  · rw [hm]
    rw [hu] at ctr
    simp only at ctr
    have hb' : ¬ (65535 : Int) < (x : Int) := by omega
    have hs' : ¬ ((l.length : Int) + 1) < (x : Int) + 5 := by omega
    have hw' : IntKind.i64.wrap (x : Int) = (x : Int) := by rw [IntKind.wrap_i64]; omega
    have hbl : (b.length : Int) - ((l.length : Int) + 1) = ((encU x).length : Int) := by
      have := congrArg List.length h
      simp at this
      omega
    have hle : (encU x).length + x + 5 ≤ b.length := by
      have := congrArg List.length h
      simp at this
      omega
    have crr := fun w => rright_any w (b.take ((encU x).length + x + 5)) (by simp; omega)
    rw [rright_eq, hrr] at crr
    generalize (encU x).length = X at *
    have hle2 : (X : Int) + (x : Int) + 5 ≤ (b.length : Int) := by omega
    have hle3 : (0 : Int) ≤ (X : Int) + (x : Int) + 5 := by omega
    have e5 : ((X : Int) + (x : Int) + 5).toNat = X + x + 5 := by omega
    have hyy : ∀ h, (ByteArray.mk (k :: l).toArray)[0]'h = k := fun _ => rfl
    have hl5 : (x : Int) ≤ (l.length : Int) := by omega
    have hw1 : IntKind.i64.wrap (1 + (x : Int)) = ((x + 1 : Nat) : Int) := by rw [IntKind.wrap_i64]; omega
    have hw2 : (0 : Int) ≤ ((x + 1 : Nat) : Int) ∧ ((x + 1 : Nat) : Int) ≤ (l.length : Int) + 1 ∧ 1 ≤ ((x + 1 : Nat) : Int) := by omega
    have hw3 : (((x + 1 : Nat) : Int)).toNat = x + 1 := by omega
    simp only [Int.natCast_add, Int.cast_ofNat_Int] at hw1 hw2 hw3
    obtain ⟨hw4, hw5, hw6⟩ := hw2
    clear hm hu hrr h hll
    go_enter Try.func11, Try.ntmps11
    go_wp2_with fail
    refine (ctr _).mono ?_
    rintro e2 w1 ⟨rfl, hb1⟩
    have hA1 := (NB.rw_new w [.int .u8 0, .string ⟨#[]⟩] 30 rfl).below hb1
    have B1 := NB.bel (oneB _ _) hb1 (oneB w (.cells #[.int .u8 0, .string ⟨#[]⟩] 30)).size
    clear hb1
    have hR2 := NB.rw_new w1 [.string ⟨(k :: l).toArray⟩, .int .i64 0] 55 rfl
    have ob := oneB w1 (.cells #[.string ⟨(k :: l).toArray⟩, .int .i64 0] 55)
    have hA2 := hA1.below ob
    have B2 := NB.bel B1 ob B1.size
    have hne : w1.heap.size ≠ w.heap.size := by have := hA1.lt; omega
    simp only [List.toArray] at hR2
    obtain ⟨c0, c1, f0, f1⟩ := NB.rw2 hR2
    obtain ⟨d0, d1, g0, g1⟩ := NB.rw2 hA2
    have hltA := hA2.lt
    clear hA1 B1 ob
    go_wp2_with fail
    generalize w1.alloc (.cells #[.string ⟨(k :: l).toArray⟩, .int .i64 0] 55) = w2 at *
    refine (crr _).mono ?_
    rintro e3 w3 ⟨rfl, hb3⟩
    have hA3 := hA2.below hb3
    have hR3 := hR2.below hb3
    have B3 := NB.bel B2 hb3 B2.size
    clear c0 c1 f0 f1 d0 d1 g0 g1 hA2 hR2 B2 hb3 hltA
    go_wp2_with fail
    refine NB.wp_region_t [10] (by kernel_rfl) ?_
    have hA4 := hA3.below (dB w3)
    have hR4 := hR3.below (dB w3)
    have B4 := B3.drew
    clear hA3 hR3 B3
    generalize w3.drew = w4 at *
    obtain ⟨c0, c1, f0, f1⟩ := NB.rw2 hR4
    obtain ⟨d0, d1, g0, g1⟩ := NB.rw2 hA4
    have hltA := hA4.lt
    refine NB.t_p 0 rfl (by kernel_rfl) (fun K hK => ?_); go_simp; refine hK _ ?_; clear hK K
    refine NB.t_r 1 [2, 8, 10, 11, 12] rfl (by kernel_rfl) (by kernel_rfl) rfl _ (fun w' hw' => NB.run_op_load rfl rfl Try.underlying9 rfl c0 hw') (fun K hK => ?_); go_simp; refine hK _ ?_; clear hK K
    refine NB.t_p 2 rfl (by kernel_rfl) (fun K hK => ?_); go_simp; refine hK _ ?_; clear hK K
    refine NB.t_p 3 rfl (by kernel_rfl) (fun K hK => ?_); go_simp; refine hK _ ?_; clear hK K
    refine NB.t_r 4 [7, 8, 10, 11, 12] rfl (by kernel_rfl) (by kernel_rfl) rfl _ (fun w' hw' => NB.run_op_load rfl rfl Try.underlying9 rfl c0 hw') (fun K hK => ?_); go_simp; refine hK _ ?_; clear hK K
    refine NB.t_p 5 rfl (by kernel_rfl) (fun K hK => ?_); go_simp; refine hK _ ?_; clear hK K
    refine NB.t_p 6 rfl (by kernel_rfl) (fun K hK => ?_); go_simp; refine hK _ ?_; clear hK K
    refine NB.t_p 7 rfl (by kernel_rfl) (fun K hK => ?_); go_simp; refine hK _ ?_; clear hK K
    refine NB.t_p 8 rfl (by kernel_rfl) (fun K hK => ?_); go_simp; refine hK _ ?_; clear hK K
    refine NB.t_p 9 rfl (by kernel_rfl) (fun K hK => ?_); go_simp; refine hK _ ?_; clear hK K
    refine NB.t_w 10 rfl (by kernel_rfl) (by kernel_rfl) rfl (fun Q' hK => ?_)
    go_wp2_with fail
    refine NB.t_p 11 rfl (by kernel_rfl) (fun K hK => ?_); go_simp; refine hK _ ?_; clear hK K
    refine NB.t_p 12 rfl (by kernel_rfl) (fun K hK => ?_); go_simp; refine hK _ ?_; clear hK K
    refine NB.t_end (by kernel_rfl) ?_
    go_wp2_with fail
    have BF := (B4.setCell (p := ⟨w.heap.size, 0, none⟩) (Nat.le_refl _) (.int .u8 (k.toNat : Int))).setCell (p := ⟨w.heap.size, 1, none⟩) (Nat.le_refl _) (.string ⟨(l.take x).toArray⟩)
    refine bodyPost_ret (v := .tuple #[.agg #[.int .u8 (k.toNat : Int), .string ⟨(l.take x).toArray⟩], .int .i64 ((X : Int) + (x : Int) + 5), .int .i64 0]) (by simp [results, Try.results11, go_sem, d0, d1, hltA]) rfl ?_
    exact ⟨by simp, BF⟩
end Go.Proofs.Ytcipghogcehfnaa
