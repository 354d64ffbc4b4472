import Derived.Test.YtjfidhjnbcmhfaaRows
import Derived.Test.YtjfidhjnbcmhfaaBase
namespace Go.Proofs.Ytjfidhjnbcmhfaa
open Go.RowKit
open Go.NB (Rd)

theorem slTB : NB.SlT Try.prog 22 5 (.int .u8 0) 1 1 :=
  ⟨Try.underlying22, info_parts (by kernel_rfl), rfl, by omega⟩

set_option maxHeartbeats 400000 in
theorem clone_any (w : World) (a : Option Addr) (n c : Nat) (bs : List UInt8) (h : NB.RdB w a n c bs) (hl : n ≤ 140737488355328) :
    Calls Try.prog 44 #[.slice a n c] w (NB.FreshB 5 w bs) := by
  have hs := NB.RdB.size h
  have heq := fun w => Lib.run_eql_slice_nil (P := Try.prog) w 22 5 a n c 0 0 Try.underlying22
  cases a with
  | none =>
    obtain rfl : c = 0 := h.nil rfl
    obtain rfl : n = 0 := by have := h.le; omega
    obtain rfl : bs = [] := List.eq_nil_of_length_eq_zero hs
    simp only [Option.isNone_none] at heq
    go_enter Try.func44, Try.ntmps44
    go_wp2
    go_ret
    exact NB.freshB_mk (World.ownsRow_nil _ _ _ _) rfl (Below.refl _ _)
  | some x =>
    simp only [Option.isNone_some] at heq
    go_enter Try.func44, Try.ntmps44
    go_wp2_with (at_builtin; with_reducible refine NB.wpList_append_rd rfl (.tmp 5) (.tmp 6) 22 rfl w.heap.size slTB _ 0 [] rfl ?_ (some x) n c (bs.map NB.u8v) rfl ?_ (NB.u8v_one _) ?_ ?_ ?_ ?_)
    case refine_1 => exact World.ownsRow_lit w #[] 0 (Nat.le_refl _) (Nat.zero_le _) rfl
    case refine_2 => exact Rd.below h ((Below.refl _ _).alloc (Nat.le_refl _) _)
    case refine_3 => omega
    case refine_4 => unfold maxLen; omega
    case refine_5 => simp
    intro v' w' ho hg
    go_wp2
    go_ret
    exact NB.freshB_mk ho rfl (((Below.refl _ _).alloc (Nat.le_refl _) _).grown hg (by simp) (by rintro k hk; cases hk; exact Nat.le_refl _))
end Go.Proofs.Ytjfidhjnbcmhfaa
