import Derived.Test.YtfokmbpcpfkopaaT3
namespace Go.Proofs.Ytfokmbpcpfkopaa
open Go.RowKit
open Go.NB.Crc
open Go.NB (Rd)

theorem rsealedL_len (l : List UInt8) : (l ++ four (rsum l)).length = l.length + 4 := by simp [four]
theorem rsum_lt (l : List UInt8) : rsum l < 4294967296 := by unfold rsum; omega

set_option maxHeartbeats 400000 in
theorem rfour_any (w : World) (x : Nat) (hx : x < 4294967296) :
    Calls Try.prog 17 #[.int .u32 (x : Int)] w fun e w' => e = .returned (.string ⟨(four x).toArray⟩) ∧ Below w.heap.size w w' := by
  have hfc := four_cells x hx
  go_enter Try.func17, Try.ntmps17
  go_wp2_with (with_reducible refine NB.wpList_conv_str (o := ⟨some 15, _, _, _, _, _⟩) rfl 23 9 (.tmp 14) rfl Try.underlying23 Try.underlying5 Try.underlying9 _ _ _ (four x) rfl (NB.rd_new w _ 5 4 rfl (by unfold maxLen; omega) rfl) ?_)
  go_ret
  exact ⟨rfl, (Below.refl _ _).alloc (Nat.le_refl _) _⟩

def rsealedL (bs : List UInt8) : List UInt8 := bs ++ four (rsum bs)

set_option maxHeartbeats 400000 in
theorem rsealed_any (w : World) (l : List UInt8) (hl : l.length ≤ 140737488355328) :
    Calls Try.prog 12 #[.string ⟨l.toArray⟩] w fun e w' => e = .returned (.string ⟨(rsealedL l).toArray⟩) ∧ Below w.heap.size w w' := by
  have hx := rsum_lt l
  have h4 : (four (rsum l)).length = 4 := rfl
  go_enter Try.func12, Try.ntmps12
  go_wp2_with (first
    | (go_at_call 10; refine (rof_l _ _ (by omega)).mono ?_; rintro e w1 ⟨rfl, rfl⟩)
    | (go_at_call 17; refine (rfour_any _ _ hx).mono ?_; rintro e w1 ⟨rfl, hb1⟩))
  go_ret
  exact ⟨rfl, hb1⟩

def rrightL (bs : List UInt8) : Bool := decide (4 ≤ bs.length) && (rsealedL (bs.take (bs.length - 4)) == bs)

set_option maxHeartbeats 400000 in
theorem rright_any (w : World) (l : List UInt8) (hl : l.length ≤ 140737488355328) :
    Calls Try.prog 14 #[.string ⟨l.toArray⟩] w fun e w' => e = .returned (.bool (rrightL l)) ∧ Below w.heap.size w w' := by
  by_cases h4 : 4 ≤ l.length
  · obtain ⟨k, hk⟩ : ∃ k, k = l.length - 4 := ⟨_, rfl⟩
    have e0 : ((l.length : Int) - 4) = (k : Int) := by omega
    have hkl : k ≤ l.length := by omega
    have HK := Go.Lib.hid hk; clear hk
    go_enter Try.func14, Try.ntmps14
    go_wp2_with (first
      | (go_at_call 12; refine (rsealed_any _ _ (by simp; omega)).mono ?_; rintro e w1 ⟨rfl, hb1⟩))
    go_ret
    exact ⟨by have := HK.out; simp [rrightL, h4, this], hb1⟩
  · go_enter Try.func14, Try.ntmps14
    go_wp2
    go_ret
    exact ⟨by simp [rrightL, h4], Below.refl _ _⟩
end Go.Proofs.Ytfokmbpcpfkopaa
