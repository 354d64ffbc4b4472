/- The reference on frames: Put alone (of Fre). -/
import Derived.Test.YtadgokegjmigoaaDoorFrb
import Derived.Test.YtadgokegjmigoaaDoorNre
import Derived.Test.YtadgokegjmigoaaDoorRsa
import Derived.Test.YtadgokegjmigoaaDoorTee
namespace Go.Proofs.YtadgokegjmigoaaDoor
open Go.RowKit
open Go.NB (Rd Kp Stp Off Dis Rr encU oneB dB Rw digs)

/-- A string and an error, in whatever later world. -/
def StrE (w : World) (r : List UInt8 × Int) (e : Ending) (w' : World) : Prop := e = .returned (.tuple #[.string ⟨r.1.toArray⟩, .int .i64 r.2]) ∧ Below w.heap.size w w'

set_option maxHeartbeats 1000000 in
theorem rfput_any (w : World) (k : UInt8) (b : List UInt8) (hb : b.length ≤ 100000000) :
    Calls Tryd.prog 10 #[.agg #[.int .u8 (k.toNat : Int), .string ⟨b.toArray⟩]] w (StrE w (fputM (k, b))) := by
  have hrow := NB.rw_new w [.int .u8 (k.toNat : Int), .string ⟨b.toArray⟩] 28 rfl
  have hB := oneB w (.cells #[.int .u8 (k.toNat : Int), .string ⟨b.toArray⟩] 28)
  simp only [List.toArray] at hrow
  by_cases h0 : 65535 < b.length
  · have hq : fputM (k, b) = ([], 13) := fput_big (by simp only; omega)
    rw [hq]
    have h0' : (65535 : Int) < (b.length : Int) := by omega
    go_enter Tryd.func10, Tryd.ntmps10
    go_wp2
    go_ret2
    exact ⟨rfl, hB⟩
  · have hq : fputM (k, b) = (sealedL (encU b.length ++ [k] ++ b), 0) := fput_is (by simp only; omega)
    rw [hq]
    have h0' : ¬ (65535 : Int) < (b.length : Int) := by omega
    have hx9 := NB.encU_len (x := b.length) (by omega)
    have hZ : (encU b.length ++ [k] ++ b).length ≤ 100000 := by simp; omega
    have cs := fun w => rsealed_any w (encU b.length ++ [k] ++ b) (by omega)
    rw [rsealed_eq] at cs
    rw [List.append_assoc, List.singleton_append] at cs
    have hI : (encU b.length ++ [k] ++ b) = encU b.length ++ k :: b := by simp
    rw [hI]
    have kl1 : (1 : Nat) ≤ maxLen := by unfold maxLen; omega
    clear hI hZ hq
    have hA1 : ¬ 9223372036854775807 < (encU b.length).length + 1 := by omega
    have hA2 : ¬ 9223372036854775807 < (encU b.length).length + 1 + b.length := by omega
    have hwr : IntKind.u64.wrap (b.length : Int) = (b.length : Int) := by rw [IntKind.wrap_u64]; omega
    go_enter Tryd.func10, Tryd.ntmps10
    go_wp2_with fail
    generalize w.alloc (.cells #[.int .u8 (k.toNat : Int), .string ⟨b.toArray⟩] 28) = w1 at *
    refine NB.wp_region_t [] (by kernel_rfl) ?_
    have row1 := hrow.below (dB w1)
    have B1 := hB.drew
    clear hrow hB
    generalize w1.drew = w2 at *
    obtain ⟨c0, c1, _⟩ := NB.rw2 row1
    refine NB.t_p 0 rfl (by kernel_rfl) (fun K hK => ?_); go_simp; refine hK _ ?_; clear hK K
    refine NB.t_r 1 [2, 3, 4, 9, 12, 13, 14, 15] rfl (by kernel_rfl) (by kernel_rfl) rfl _ (fun w' hw' => NB.run_op_load rfl rfl Tryd.underlying9 rfl c1 hw') (fun K hK => ?_); go_simp; refine hK _ ?_; clear hK K
    refine NB.t_p 2 rfl (by kernel_rfl) (fun K hK => ?_); go_simp; refine hK _ ?_; clear hK K
    refine NB.t_p 3 rfl (by kernel_rfl) (fun K hK => ?_); go_simp; refine hK _ ?_; clear hK K
    refine NB.t_p 5 rfl (by kernel_rfl) (fun K hK => ?_); go_simp; refine hK _ ?_; clear hK K
    refine NB.t_r 6 [7, 8, 9, 12, 13, 14, 15] rfl (by kernel_rfl) (by kernel_rfl) rfl _ (fun w' hw' => NB.run_op_load rfl rfl Tryd.underlying5 rfl c0 hw') (fun K hK => ?_); go_simp; refine hK _ ?_; clear hK K
    refine NB.t_p 10 rfl (by kernel_rfl) (fun K hK => ?_); go_simp; refine hK _ ?_; clear hK K
    refine NB.t_r 11 [12, 13, 14, 15] rfl (by kernel_rfl) (by kernel_rfl) rfl _ (fun w' hw' => NB.run_op_load rfl rfl Tryd.underlying9 rfl c1 hw') (fun K hK => ?_); go_simp; refine hK _ ?_; clear hK K
    refine NB.t_e2 4 7 rfl rfl (by kernel_rfl) (by kernel_rfl) (by kernel_rfl) (fun K hK => ?_) (fun K hK => ?_)
    · unfold NB.tmoves; go_simp; refine (ruintR_any _ b.length (by omega)).mono ?_; rintro e w3 ⟨rfl, hb3⟩; refine ⟨_, rfl, hb3, hK _ _ ?_⟩; clear hK K
      refine NB.t_e 7 rfl (by kernel_rfl) (by kernel_rfl) (fun K hK => ?_); unfold NB.tmoves; go_simp; refine ⟨oneB _ _, hK _ _ ?_⟩; clear hK K
      have r4 := NB.rdB_lit (w := w3) (fr := (0, 0)) (t := 5) [k] (cs := #[.int .u8 (k.toNat : Int)]) rfl rfl kl1 rfl
      refine NB.t_r 8 [9, 12, 13, 14, 15] rfl (by kernel_rfl) (by kernel_rfl) rfl _ (fun w' hw' => NB.run_op_conv_str Tryd.underlying22 Tryd.underlying5 Tryd.underlying9 rfl rfl (Rd.below r4 hw')) (fun K hK => ?_); go_simp; refine hK _ ?_; clear hK K
      refine NB.t_p 9 rfl (by kernel_rfl) (fun K hK => ?_); go_simp; refine hK _ ?_; clear hK K
      refine NB.t_p 12 rfl (by kernel_rfl) (fun K hK => ?_); go_simp; refine hK _ ?_; clear hK K
      refine NB.t_e 13 rfl (by kernel_rfl) (by kernel_rfl) (fun K hK => ?_); unfold NB.tmoves; go_simp; refine (cs _).mono ?_; rintro e w5 ⟨rfl, hb5⟩; refine ⟨_, rfl, by simpa using hb5, hK _ _ ?_⟩; clear hK K
      refine NB.t_p 14 rfl (by kernel_rfl) (fun K hK => ?_); go_simp; refine hK _ ?_; clear hK K
      refine NB.t_p 15 rfl (by kernel_rfl) (fun K hK => ?_); go_simp; refine hK _ ?_; clear hK K
      refine NB.t_end (by kernel_rfl) ?_
      go_wp2_with fail
      go_ret2
      have B3 := NB.bel B1 hb3 B1.size
      have B4 := NB.bel B3 (oneB w3 (.cells #[.int .u8 (k.toNat : Int)] 5)) B3.size
      exact ⟨rfl, NB.bel B4 hb5 B4.size⟩
    · unfold NB.tmoves; go_simp; refine ⟨oneB _ _, hK _ _ ?_⟩; clear hK K
      have r4 := NB.rdB_lit (w := w2) (fr := (0, 0)) (t := 5) [k] (cs := #[.int .u8 (k.toNat : Int)]) rfl rfl kl1 rfl
      refine NB.t_r 8 [9, 12, 13, 14, 15] rfl (by kernel_rfl) (by kernel_rfl) rfl _ (fun w' hw' => NB.run_op_conv_str Tryd.underlying22 Tryd.underlying5 Tryd.underlying9 rfl rfl (Rd.below r4 hw')) (fun K hK => ?_); go_simp; refine hK _ ?_; clear hK K
      refine NB.t_e 4 rfl (by kernel_rfl) (by kernel_rfl) (fun K hK => ?_); unfold NB.tmoves; go_simp; refine (ruintR_any _ b.length (by omega)).mono ?_; rintro e w4 ⟨rfl, hb4⟩; refine ⟨_, rfl, by simpa using hb4, hK _ _ ?_⟩; clear hK K
      refine NB.t_p 9 rfl (by kernel_rfl) (fun K hK => ?_); go_simp; refine hK _ ?_; clear hK K
      refine NB.t_p 12 rfl (by kernel_rfl) (fun K hK => ?_); go_simp; refine hK _ ?_; clear hK K
      refine NB.t_e 13 rfl (by kernel_rfl) (by kernel_rfl) (fun K hK => ?_); unfold NB.tmoves; go_simp; refine (cs _).mono ?_; rintro e w5 ⟨rfl, hb5⟩; refine ⟨_, rfl, by simpa using hb5, hK _ _ ?_⟩; clear hK K
      refine NB.t_p 14 rfl (by kernel_rfl) (fun K hK => ?_); go_simp; refine hK _ ?_; clear hK K
      refine NB.t_p 15 rfl (by kernel_rfl) (fun K hK => ?_); go_simp; refine hK _ ?_; clear hK K
      refine NB.t_end (by kernel_rfl) ?_
      go_wp2_with fail
      go_ret2
      have B3 := NB.bel B1 (oneB w2 (.cells #[.int .u8 (k.toNat : Int)] 5)) B1.size
      have B4 := NB.bel B3 hb4 B3.size
      exact ⟨rfl, NB.bel B4 hb5 B4.size⟩
end Go.Proofs.YtadgokegjmigoaaDoor
