/- The reference on disks, walked: a block of noughts, the error of a call, a call that counts, what is told to stop. -/
import Derived.Test.YtcdapjfaekamkaaStr
namespace Go.Proofs.Ytcdapjfaekamkaa
open Go.RowKit
open Go.NB (Rd Dk Kp Stp Off Dis)

theorem twoB (w : World) (o o' : Obj) : Below w.heap.size w ((w.alloc o).alloc o') := ((Below.refl _ _).alloc (Nat.le_refl _) _).alloc (by simp) _
theorem oneB (w : World) (o : Obj) : Below w.heap.size w (w.alloc o) := (Below.refl _ _).alloc (Nat.le_refl _) _

/-- A disk of the reference, out of its parts. -/
def rdV (a1 : Option Addr) (n1 c1 : Nat) (a2 : Option Addr) (n2 c2 : Nat) (left : Int) (down : Bool) : Value := .agg #[.slice a1 n1 c1, .slice a2 n2 c2, .int .i64 left, .bool down]

set_option maxRecDepth 100000 in
theorem rnoughts_any (w : World) : Calls Try.prog 35 #[] w fun e w' => e = .returned (strL (List.replicate 64 0)) ∧ Below w.heap.size w w' := by
  obtain ⟨i, hi, hz, hsz, hby⟩ := slTB.hi
  go_enter Try.func35, Try.ntmps35
  go_wp2_with (first
    | (refine wpList_make_full w rfl (.const (.int .i64 64)) (.const (.int .i64 64)) 23 rfl w.heap.size 5 i (.int .u8 0) 1 slTB.ht hi hz hsz .i64 .i64 64 64 64 rfl rfl rfl rfl (by rw [hby]; omega) (by unfold maxLen; omega) (Nat.le_refl _) ?_; intro w2 ho2 hg2; have hr2 : NB.RdB w2 (some ⟨w.heap.size, 0, none⟩) 64 64 (List.replicate 64 0) := NB.rdB_row (t := 5) (fr := (0, 0)) (by have h := row_full ho2; rw [show (Value.int IntKind.u8 0).cells = #[.int .u8 0] from rfl, Nat.mul_one, show (madeCells #[.int .u8 0] 64).toList = ((List.replicate 64 (0 : UInt8)).map NB.u8v) from by kernel_rfl] at h; exact h) (by simp) (by unfold maxLen; omega))
    | (refine NB.wpList_conv_str rfl 23 9 (.tmp 1) rfl Try.underlying23 Try.underlying5 Try.underlying9 _ 64 64 (List.replicate 64 0) rfl hr2 ?_))
  go_ret
  exact ⟨rfl, (Below.refl _ w).grown hg2 (Nat.le_refl _) (by rintro k hk; cases hk)⟩

set_option maxHeartbeats 1000000 in
theorem rat_any (w : World) (a1 : Option Addr) (n1 c1 : Nat) (a2 : Option Addr) (n2 c2 : Nat) (D : Dk) (i : Int) (h1 : n1 = D.l.length) :
    Calls Try.prog 43 #[rdV a1 n1 c1 a2 n2 c2 D.left D.down, .int .i64 i] w fun e w' => e = .returned (.int .i64 (D.at_ i)) ∧ Below w.heap.size w w' := by
  subst h1
  unfold rdV
  obtain ⟨l, waits, left, down⟩ := D
  cases down with
  | true =>
    go_enter Try.func43, Try.ntmps43
    go_wp2
    go_ret
    exact ⟨rfl, oneB _ _⟩
  | false =>
    by_cases h0 : i < 0
    · go_enter Try.func43, Try.ntmps43
      go_wp2
      go_ret
      exact ⟨by simp [Dk.at_, h0], oneB _ _⟩
    · by_cases hl : (l.length : Int) ≤ i
      · go_enter Try.func43, Try.ntmps43
        go_wp2
        go_ret
        exact ⟨by simp [Dk.at_, hl], oneB _ _⟩
      · have hq : (⟨l, waits, left, false⟩ : Dk).at_ i = 0 := by simp only [Dk.at_, if_false, Bool.false_eq_true]; rw [if_neg (by omega)]
        rw [hq]
        clear hq
        go_enter Try.func43, Try.ntmps43
        go_wp2
        go_ret
        exact ⟨rfl, oneB _ _⟩

set_option maxHeartbeats 1000000 in
theorem rcounts_any (w : World) (a1 : Option Addr) (n1 c1 : Nat) (a2 : Option Addr) (n2 c2 : Nat) (D : Dk) (h1 : -1 ≤ D.left) (h2 : D.left ≤ 9223372036854775807) :
    Calls Try.prog 44 #[rdV a1 n1 c1 a2 n2 c2 D.left D.down] w fun e w' => e = .returned (.tuple #[rdV a1 n1 c1 a2 n2 c2 D.counts.1.left D.counts.1.down, .int .i64 D.counts.2]) ∧ Below w.heap.size w w' := by
  unfold rdV
  obtain ⟨l, waits, left, down⟩ := D
  simp only at h1 h2 ⊢
  by_cases h0 : left = 0
  · subst h0
    go_enter Try.func44, Try.ntmps44
    go_wp2
    exact bodyPost_ret (v := .tuple #[rdV a1 n1 c1 a2 n2 c2 0 true, .int .i64 20]) (by simp [results, Try.results44, go_sem, rdV]) rfl ⟨rfl, twoB _ _ _⟩
  · have h0b : (left == 0) = false := by simpa using h0
    by_cases hp : 0 < left
    · have hq : (⟨l, waits, left, down⟩ : Dk).counts = (⟨l, waits, left - 1, down⟩, 0) := by simp only [Dk.counts, h0, if_false, Prod.mk.injEq, Dk.mk.injEq, true_and, and_true]; omega
      rw [hq]
      go_enter Try.func44, Try.ntmps44
      go_wp2
      exact bodyPost_ret (v := .tuple #[rdV a1 n1 c1 a2 n2 c2 (left - 1) down, .int .i64 0]) (by simp [results, Try.results44, go_sem, rdV]) rfl ⟨rfl, twoB _ _ _⟩
    · obtain rfl : left = -1 := by omega
      have hq : (⟨l, waits, -1, down⟩ : Dk).counts = (⟨l, waits, -1, down⟩, 0) := rfl
      rw [hq]
      go_enter Try.func44, Try.ntmps44
      go_wp2
      exact bodyPost_ret (v := .tuple #[rdV a1 n1 c1 a2 n2 c2 (-1) down, .int .i64 0]) (by simp [results, Try.results44, go_sem, rdV]) rfl ⟨rfl, twoB _ _ _⟩

set_option maxHeartbeats 1000000 in
theorem rstop_any (w : World) (a1 : Option Addr) (n1 c1 : Nat) (a2 : Option Addr) (n2 c2 : Nat) (left : Int) (down : Bool) (x : Int) :
    Calls Try.prog 21 #[rdV a1 n1 c1 a2 n2 c2 left down, .int .i64 x] w fun e w' => e = .returned (rdV a1 n1 c1 a2 n2 c2 (max x (-1)) down) ∧ Below w.heap.size w w' := by
  unfold rdV
  by_cases h0 : x < 0
  · have hq : max x (-1) = -1 := by omega
    rw [hq]
    go_enter Try.func21, Try.ntmps21
    go_wp2
    exact bodyPost_ret (v := rdV a1 n1 c1 a2 n2 c2 (-1) down) (by simp [results, Try.results21, go_sem, rdV]) rfl ⟨rfl, twoB _ _ _⟩
  · have hq : max x (-1) = x := by omega
    rw [hq]
    go_enter Try.func21, Try.ntmps21
    go_wp2
    exact bodyPost_ret (v := rdV a1 n1 c1 a2 n2 c2 x down) (by simp [results, Try.results21, go_sem, rdV]) rfl ⟨rfl, twoB _ _ _⟩
end Go.Proofs.Ytcdapjfaekamkaa
