/- Rows of numbers: slices.Clone and vec.Cut. -/
import Derived.Test.YtjfidhjnbcmhfaaOpenu
import Derived.Test.YtjfidhjnbcmhfaaRw
import Derived.Test.YtjfidhjnbcmhfaaSlc
namespace Go.Proofs.Ytjfidhjnbcmhfaa
open Go.RowKit
open Go.NB (Rd RdU oneB dB u64v)

theorem slTU : NB.SlT Try.prog 35 32 (.int .u64 0) 1 8 :=
  ⟨Try.underlying35, info_parts (by kernel_rfl), rfl, by omega⟩
theorem u64_one (xs : List Nat) : ∀ u ∈ xs.map u64v, u.oneCell' = true := by
  intro u hu
  obtain ⟨x, _, rfl⟩ := List.mem_map.1 hu
  rfl

/-- New memory that reads as such numbers. -/
def FreshU (w : World) (n : Nat) (xs : List Nat) (e : Ending) (w' : World) : Prop :=
  ∃ a c, e = .returned (.slice a n c) ∧ w'.ownsRow w.heap.size 32 1 (.slice a n c) n (xs.map u64v) ∧ Below w.heap.size w w'
theorem freshU_mk {w w' : World} {xs : List Nat} {v : Value} {n : Nat} {ys : List Value} (h : w'.ownsRow w.heap.size 32 1 v n ys) (hx : ys = xs.map u64v) (hb : Below w.heap.size w w') : FreshU w n xs (.returned v) w' := by
  subst hx
  obtain ⟨a, c, rfl, _⟩ := NB.rd_of_own h
  exact ⟨a, c, rfl, h, hb⟩

set_option maxHeartbeats 400000 in
theorem cloneU_any (w : World) (a : Option Addr) (n c : Nat) (xs : List Nat) (h : RdU w a n c xs) (hl : n ≤ 100000000000) :
    Calls Try.prog 45 #[.slice a n c] w (FreshU w n xs) := by
  have hs := NB.RdU.size h
  have heq := fun w => Lib.run_eql_slice_nil (P := Try.prog) w 35 32 a n c 0 0 Try.underlying35
  obtain ⟨h, h64⟩ := h
  clear h64
  cases a with
  | none =>
    obtain rfl : c = 0 := h.nil rfl
    obtain rfl : n = 0 := by have := h.le; omega
    obtain rfl : xs = [] := List.eq_nil_of_length_eq_zero hs
    simp only [Option.isNone_none] at heq
    go_enter Try.func45, Try.ntmps45
    go_wp2
    go_ret
    exact freshU_mk (World.ownsRow_nil _ _ _ _) rfl (Below.refl _ _)
  | some x =>
    simp only [Option.isNone_some] at heq
    go_enter Try.func45, Try.ntmps45
    go_wp2_with (at_builtin; with_reducible refine NB.wpList_append_rd rfl (.tmp 5) (.tmp 6) 35 rfl w.heap.size slTU _ 0 [] rfl ?_ (some x) n c (xs.map u64v) rfl ?_ (u64_one _) ?_ ?_ ?_ ?_)
    case refine_1 => exact World.ownsRow_lit w #[] 0 (Nat.le_refl _) (Nat.zero_le _) rfl
    case refine_2 => exact Rd.below h ((Below.refl _ _).alloc (Nat.le_refl _) _)
    case refine_3 => omega
    case refine_4 => unfold maxLen; omega
    case refine_5 => simp
    intro v' w' ho hg
    go_wp2
    go_ret
    exact freshU_mk ho rfl (((Below.refl _ _).alloc (Nat.le_refl _) _).grown hg (by simp) (by rintro k hk; cases hk; exact Nat.le_refl _))

/-- What a row is without noughts behind. -/
def cutN (xs : List Nat) : List Nat := (xs.reverse.dropWhile (· == 0)).reverse
/-- So many of its first numbers, a new row. -/
def CutE (w : World) (xs : List Nat) (e : Ending) (w' : World) : Prop :=
  ∃ m, m ≤ xs.length ∧ (m < xs.length ↔ xs.getLast? = some 0) ∧ (∀ i, m ≤ i → i < xs.length → xs.getD i 0 = 0) ∧ (0 < m → xs.getD (m - 1) 0 ≠ 0) ∧ FreshU w m (xs.take m) e w'

theorem last_getD {xs : List Nat} (h : 0 < xs.length) : xs.getLast? = some (xs.getD (xs.length - 1) 0) := by
  rw [List.getLast?_eq_getElem?, List.getD_eq_getElem?_getD, List.getElem?_eq_getElem (by omega)]
  rfl

set_option maxHeartbeats 1000000 in
theorem vcut_any (w : World) (a : Option Addr) (n c : Nat) (xs : List Nat) (h : RdU w a n c xs) (hl : n ≤ 100000000000) :
    Calls Try.prog 30 #[.slice a n c] w (CutE w xs) := by
  have hs := NB.RdU.size h
  have hle := h.1.le
  have hbd := Rd.bound h.1
  have HS := Go.Lib.hid hs; clear hs
  go_enter Try.func30, Try.ntmps30
  go_wp2_with fail
  go_loop [3] (fun x => ∃ k : Nat, k ≤ n ∧ x = .int .i64 (k : Int) ∧ ∀ i, k ≤ i → i < n → xs.getD i 0 = 0) (fun x => (intOf x).toNat)
  case atStart => exact ⟨n, Nat.le_refl _, rfl, fun i h1 h2 => by omega⟩
  case round =>
    obtain ⟨k, hk, rfl, hz0⟩ := hrel
    have HZ := Go.Lib.hid hz0; clear hz0
    by_cases h0 : k = 0 ∨ xs.getD (k - 1) 0 ≠ 0
    · have hfin : ∀ e w', FreshU w k (xs.take k) e w' → CutE w xs e w' := fun e w' hf => by
        have hs := HS.out
        refine ⟨k, by omega, ?_, fun i h1 h2 => HZ.out i h1 (by omega), fun hp => ?_, hf⟩
        · constructor
          · intro hkn
            rw [last_getD (by omega), HZ.out _ (by omega) (by omega)]
          · intro hlast
            rcases Nat.lt_or_ge k xs.length with h1 | h1
            · exact h1
            · have hp : 0 < xs.length := by cases xs with | nil => simp at hlast | cons _ _ => simp
              rw [last_getD hp] at hlast
              rcases h0 with h0 | h0
              · omega
              · rw [show k - 1 = xs.length - 1 by omega] at h0
                exact absurd (by simpa using hlast) h0
        · rcases h0 with h0 | h0
          · omega
          · exact h0
      have hrk : RdU w a k k (xs.take k) := ⟨by have := h.1.front k hk; rwa [Nat.mul_one, ← List.map_take] at this, fun x hx => h.2 x (List.mem_of_mem_take hx)⟩
      have HF := Go.Lib.hid hfin
      clear hfin
      have hkc : k ≤ c := by omega
      by_cases hk0 : k = 0
      · subst hk0
        clear h0
        go_wp2_with (go_at_call 45; refine (cloneU_any _ _ _ _ _ hrk (by omega)).mono ?_; intro e w' hF; obtain ⟨a', c', rfl, ho, hb⟩ := id hF)
        go_ret
        exact HF.out _ _ hF
      · obtain ⟨b, o, hc, rfl⟩ := NB.RdU.at h (k - 1) (by omega)
        obtain ⟨j, rfl⟩ : ∃ j, k = j + 1 := ⟨k - 1, by omega⟩
        have hne : ((xs.getD (j + 1 - 1) 0 : Nat) : Int) ≠ 0 := by
          rcases h0 with h0 | h0
          · omega
          · omega
        rw [Nat.add_sub_cancel] at hne hc
        clear h0 hk0
        generalize xs.getD j 0 = y at hne hc
        have hb0 : ((y : Int) == 0) = false := by simpa using hne
        clear hne
        go_wp2_with (go_at_call 45; refine (cloneU_any _ _ _ _ _ hrk (by omega)).mono ?_; intro e w' hF; obtain ⟨a', c', rfl, ho, hb⟩ := id hF)
        go_ret
        exact HF.out _ _ hF
    · obtain ⟨j, rfl⟩ : ∃ j, k = j + 1 := ⟨k - 1, by omega⟩
      obtain ⟨b, o, hc, rfl⟩ := NB.RdU.at h j (by omega)
      have hz : xs.getD j 0 = 0 := by
        rw [Nat.add_sub_cancel] at h0
        omega
      rw [hz] at hc
      have HZJ := Go.Lib.hid hz
      clear hz h0
      go_wp2_with fail
      go_round
      case rel => exact ⟨j, by omega, by go_num, fun i h1 h2 => by
        rcases Nat.eq_or_lt_of_le h1 with h3 | h3
        · subst h3; exact HZJ.out
        · exact HZ.out i h3 h2⟩
      case measure => simp [intOf]
end Go.Proofs.Ytjfidhjnbcmhfaa
