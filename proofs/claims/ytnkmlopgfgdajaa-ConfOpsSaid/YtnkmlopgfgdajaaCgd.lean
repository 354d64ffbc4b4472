/- The walk for the statement ConfOps. -/
import Derived.Test.YtnkmlopgfgdajaaCga
namespace Go.Proofs.Ytnkmlopgfgdajaa
open Go.RowKit
open Go.NB (Rd RdU Kp Stp Dis Rr Rw oneB dB encU)

theorem rdW_nil (w : World) : RdW w none 0 0 [] := ⟨Rd.nil_mk, fun x hx => nomatch hx⟩
theorem rdW_one (w : World) {g A : Nat} (hg : g = w.heap.size) (h : RdU w (some ⟨A, 0, none⟩) 1 1 [1]) (t : TypeId) : RdW (w.alloc (.cells #[.int .i64 0, .slice (some ⟨A, 0, none⟩) 1 1] t)) (some ⟨g, 0, none⟩) 1 1 [⟨0, some ⟨A, 0, none⟩, 1, 1, [1]⟩] :=
  ⟨NB.rd_new w #[.int .i64 0, .slice (some ⟨A, 0, none⟩) 1 1] t 1 rfl (by unfold maxLen; omega) hg, fun x hx => by
    obtain rfl : x = _ := by simpa using hx
    exact h.below (oneB _ _)⟩
theorem rdU_one (w : World) {g : Nat} (hg : g = w.heap.size) (t : TypeId) : RdU (w.alloc (.cells #[.int .u64 1] t)) (some ⟨g, 0, none⟩) 1 1 [1] :=
  ⟨NB.rd_new w #[.int .u64 1] t 1 rfl (by unfold maxLen; omega) hg, fun x hx => by
    obtain rfl : x = 1 := by simpa using hx
    omega⟩
theorem check_far {op sh sg : Int} {cl sq ps : Nat} {l : List Iw} (h : op < 0 ∨ 4 < op) : checkM (cmOf op cl sq sh sg ps l) = 1 := by
  unfold checkM
  rw [if_neg (fun hh => by have := check_op hh; simp only [cmOf] at this; omega)]

set_option maxHeartbeats 4000000 in
theorem law_cops0 (w : World) (op : Int) (x : UInt8) (hx : (x.toNat : Int) % 6 = 0) (ho : -9223372036854775808 ≤ op ∧ op ≤ 9223372036854775807) :
    Calls Try.prog 6 #[.int .i64 op, .int .u8 (x.toNat : Int)] w fun e w' => e = .returned (.bool true) ∧ Below w.heap.size w w' := by
  have h6 : op = 0 ∨ op = 1 ∨ op = 2 ∨ op = 3 ∨ op = 4 ∨ (op < 0 ∨ 4 < op) := by omega
  rcases h6 with rfl | rfl | rfl | rfl | rfl | h6
  · have hck : checkM (cmOf 0 1 0 0 0 0 []) = 1 := rfl
    have HCK := Go.Lib.hid hck
    clear hck
    clear ho
    go_enter Try.func6, Try.ntmps6
    go_wp2_with (first
      | (go_at_call 10; refine (cawake_any _).mono ?_; rintro e w1 ⟨rfl, hb1⟩)
      | (go_at_call 18; refine (check_any _ 0 0 0 1 0 0 0 0 none [] (rdW_nil _)).mono ?_; rw [HCK.out]; rintro e w2 ⟨rfl, hb2⟩))
    go_ret
    refine ⟨by simp, ?_⟩
    refine NB.bel (NB.bel hb1 (?_ : Below w1.heap.size w1 _) hb1.size) hb2 ?_
    · repeat (first | exact Below.refl _ _ | refine Below.alloc ?_ (by first | (simp; done) | (simp; omega)) _)
    · have := hb1.size; simp; omega
  · have hck : checkM (cmOf 1 1 0 0 2 0 []) = 0 := rfl
    have HCK := Go.Lib.hid hck
    clear hck
    clear ho
    go_enter Try.func6, Try.ntmps6
    go_wp2_with (first
      | (go_at_call 10; refine (cawake_any _).mono ?_; rintro e w1 ⟨rfl, hb1⟩)
      | (go_at_call 18; refine (check_any _ 1 0 2 1 0 0 0 0 none [] (rdW_nil _)).mono ?_; rw [HCK.out]; rintro e w2 ⟨rfl, hb2⟩))
    go_ret
    refine ⟨by simp, ?_⟩
    refine NB.bel (NB.bel hb1 (?_ : Below w1.heap.size w1 _) hb1.size) hb2 ?_
    · repeat (first | exact Below.refl _ _ | refine Below.alloc ?_ (by first | (simp; done) | (simp; omega)) _)
    · have := hb1.size; simp; omega
  · have hck : checkM (cmOf 2 1 0 0 0 0 []) = 0 := rfl
    have HCK := Go.Lib.hid hck
    clear hck
    clear ho
    go_enter Try.func6, Try.ntmps6
    go_wp2_with (first
      | (go_at_call 10; refine (cawake_any _).mono ?_; rintro e w1 ⟨rfl, hb1⟩)
      | (go_at_call 18; refine (check_any _ 2 0 0 1 0 0 0 0 none [] (rdW_nil _)).mono ?_; rw [HCK.out]; rintro e w2 ⟨rfl, hb2⟩))
    go_ret
    refine ⟨by simp, ?_⟩
    refine NB.bel (NB.bel hb1 (?_ : Below w1.heap.size w1 _) hb1.size) hb2 ?_
    · repeat (first | exact Below.refl _ _ | refine Below.alloc ?_ (by first | (simp; done) | (simp; omega)) _)
    · have := hb1.size; simp; omega
  · have hck : checkM (cmOf 3 1 0 0 0 0 []) = 0 := rfl
    have HCK := Go.Lib.hid hck
    clear hck
    clear ho
    go_enter Try.func6, Try.ntmps6
    go_wp2_with (first
      | (go_at_call 10; refine (cawake_any _).mono ?_; rintro e w1 ⟨rfl, hb1⟩)
      | (go_at_call 18; refine (check_any _ 3 0 0 1 0 0 0 0 none [] (rdW_nil _)).mono ?_; rw [HCK.out]; rintro e w2 ⟨rfl, hb2⟩))
    go_ret
    refine ⟨by simp, ?_⟩
    refine NB.bel (NB.bel hb1 (?_ : Below w1.heap.size w1 _) hb1.size) hb2 ?_
    · repeat (first | exact Below.refl _ _ | refine Below.alloc ?_ (by first | (simp; done) | (simp; omega)) _)
    · have := hb1.size; simp; omega
  · have hck : checkM (cmOf 4 1 0 0 0 0 []) = 1 := rfl
    have HCK := Go.Lib.hid hck
    clear hck
    clear ho
    go_enter Try.func6, Try.ntmps6
    go_wp2_with (first
      | (go_at_call 10; refine (cawake_any _).mono ?_; rintro e w1 ⟨rfl, hb1⟩)
      | (go_at_call 18; refine (check_any _ 4 0 0 1 0 0 0 0 none [] (rdW_nil _)).mono ?_; rw [HCK.out]; rintro e w2 ⟨rfl, hb2⟩))
    go_ret
    refine ⟨by simp, ?_⟩
    refine NB.bel (NB.bel hb1 (?_ : Below w1.heap.size w1 _) hb1.size) hb2 ?_
    · repeat (first | exact Below.refl _ _ | refine Below.alloc ?_ (by first | (simp; done) | (simp; omega)) _)
    · have := hb1.size; simp; omega
  · have hck : checkM (cmOf op 1 0 0 0 0 []) = 1 := check_far h6
    have HCK := Go.Lib.hid hck
    clear hck
    have n1 : (op == 1) = false := by simp; omega
    have n2 : (op == 2) = false := by simp; omega
    have n3 : (op == 3) = false := by simp; omega
    have n4 : (op == 4) = false := by simp; omega
    clear h6
    clear ho
    go_enter Try.func6, Try.ntmps6
    go_wp2_with (first
      | (go_at_call 10; refine (cawake_any _).mono ?_; rintro e w1 ⟨rfl, hb1⟩)
      | (go_at_call 18; refine (check_any _ op 0 0 1 0 0 0 0 none [] (rdW_nil _)).mono ?_; rw [HCK.out]; rintro e w2 ⟨rfl, hb2⟩))
    go_ret
    refine ⟨by simp, ?_⟩
    refine NB.bel (NB.bel hb1 (?_ : Below w1.heap.size w1 _) hb1.size) hb2 ?_
    · repeat (first | exact Below.refl _ _ | refine Below.alloc ?_ (by first | (simp; done) | (simp; omega)) _)
    · have := hb1.size; simp; omega
set_option maxHeartbeats 4000000 in
theorem law_cops1 (w : World) (op : Int) (x : UInt8) (hx : (x.toNat : Int) % 6 = 1) (ho : -9223372036854775808 ≤ op ∧ op ≤ 9223372036854775807) :
    Calls Try.prog 6 #[.int .i64 op, .int .u8 (x.toNat : Int)] w fun e w' => e = .returned (.bool true) ∧ Below w.heap.size w w' := by
  have h6 : op = 0 ∨ op = 1 ∨ op = 2 ∨ op = 3 ∨ op = 4 ∨ (op < 0 ∨ 4 < op) := by omega
  rcases h6 with rfl | rfl | rfl | rfl | rfl | h6
  · have hck : checkM (cmOf 0 0 1 0 0 0 []) = 1 := rfl
    have HCK := Go.Lib.hid hck
    clear hck
    clear ho
    go_enter Try.func6, Try.ntmps6
    go_wp2_with (first
      | (go_at_call 10; refine (cawake_any _).mono ?_; rintro e w1 ⟨rfl, hb1⟩)
      | (go_at_call 18; refine (check_any _ 0 0 0 0 1 0 0 0 none [] (rdW_nil _)).mono ?_; rw [HCK.out]; rintro e w2 ⟨rfl, hb2⟩))
    go_ret
    refine ⟨by simp, ?_⟩
    refine NB.bel (NB.bel hb1 (?_ : Below w1.heap.size w1 _) hb1.size) hb2 ?_
    · repeat (first | exact Below.refl _ _ | refine Below.alloc ?_ (by first | (simp; done) | (simp; omega)) _)
    · have := hb1.size; simp; omega
  · have hck : checkM (cmOf 1 0 1 0 2 0 []) = 0 := rfl
    have HCK := Go.Lib.hid hck
    clear hck
    clear ho
    go_enter Try.func6, Try.ntmps6
    go_wp2_with (first
      | (go_at_call 10; refine (cawake_any _).mono ?_; rintro e w1 ⟨rfl, hb1⟩)
      | (go_at_call 18; refine (check_any _ 1 0 2 0 1 0 0 0 none [] (rdW_nil _)).mono ?_; rw [HCK.out]; rintro e w2 ⟨rfl, hb2⟩))
    go_ret
    refine ⟨by simp, ?_⟩
    refine NB.bel (NB.bel hb1 (?_ : Below w1.heap.size w1 _) hb1.size) hb2 ?_
    · repeat (first | exact Below.refl _ _ | refine Below.alloc ?_ (by first | (simp; done) | (simp; omega)) _)
    · have := hb1.size; simp; omega
  · have hck : checkM (cmOf 2 0 1 0 0 0 []) = 0 := rfl
    have HCK := Go.Lib.hid hck
    clear hck
    clear ho
    go_enter Try.func6, Try.ntmps6
    go_wp2_with (first
      | (go_at_call 10; refine (cawake_any _).mono ?_; rintro e w1 ⟨rfl, hb1⟩)
      | (go_at_call 18; refine (check_any _ 2 0 0 0 1 0 0 0 none [] (rdW_nil _)).mono ?_; rw [HCK.out]; rintro e w2 ⟨rfl, hb2⟩))
    go_ret
    refine ⟨by simp, ?_⟩
    refine NB.bel (NB.bel hb1 (?_ : Below w1.heap.size w1 _) hb1.size) hb2 ?_
    · repeat (first | exact Below.refl _ _ | refine Below.alloc ?_ (by first | (simp; done) | (simp; omega)) _)
    · have := hb1.size; simp; omega
  · have hck : checkM (cmOf 3 0 1 0 0 0 []) = 0 := rfl
    have HCK := Go.Lib.hid hck
    clear hck
    clear ho
    go_enter Try.func6, Try.ntmps6
    go_wp2_with (first
      | (go_at_call 10; refine (cawake_any _).mono ?_; rintro e w1 ⟨rfl, hb1⟩)
      | (go_at_call 18; refine (check_any _ 3 0 0 0 1 0 0 0 none [] (rdW_nil _)).mono ?_; rw [HCK.out]; rintro e w2 ⟨rfl, hb2⟩))
    go_ret
    refine ⟨by simp, ?_⟩
    refine NB.bel (NB.bel hb1 (?_ : Below w1.heap.size w1 _) hb1.size) hb2 ?_
    · repeat (first | exact Below.refl _ _ | refine Below.alloc ?_ (by first | (simp; done) | (simp; omega)) _)
    · have := hb1.size; simp; omega
  · have hck : checkM (cmOf 4 0 1 0 0 0 []) = 1 := rfl
    have HCK := Go.Lib.hid hck
    clear hck
    clear ho
    go_enter Try.func6, Try.ntmps6
    go_wp2_with (first
      | (go_at_call 10; refine (cawake_any _).mono ?_; rintro e w1 ⟨rfl, hb1⟩)
      | (go_at_call 18; refine (check_any _ 4 0 0 0 1 0 0 0 none [] (rdW_nil _)).mono ?_; rw [HCK.out]; rintro e w2 ⟨rfl, hb2⟩))
    go_ret
    refine ⟨by simp, ?_⟩
    refine NB.bel (NB.bel hb1 (?_ : Below w1.heap.size w1 _) hb1.size) hb2 ?_
    · repeat (first | exact Below.refl _ _ | refine Below.alloc ?_ (by first | (simp; done) | (simp; omega)) _)
    · have := hb1.size; simp; omega
  · have hck : checkM (cmOf op 0 1 0 0 0 []) = 1 := check_far h6
    have HCK := Go.Lib.hid hck
    clear hck
    have n1 : (op == 1) = false := by simp; omega
    have n2 : (op == 2) = false := by simp; omega
    have n3 : (op == 3) = false := by simp; omega
    have n4 : (op == 4) = false := by simp; omega
    clear h6
    clear ho
    go_enter Try.func6, Try.ntmps6
    go_wp2_with (first
      | (go_at_call 10; refine (cawake_any _).mono ?_; rintro e w1 ⟨rfl, hb1⟩)
      | (go_at_call 18; refine (check_any _ op 0 0 0 1 0 0 0 none [] (rdW_nil _)).mono ?_; rw [HCK.out]; rintro e w2 ⟨rfl, hb2⟩))
    go_ret
    refine ⟨by simp, ?_⟩
    refine NB.bel (NB.bel hb1 (?_ : Below w1.heap.size w1 _) hb1.size) hb2 ?_
    · repeat (first | exact Below.refl _ _ | refine Below.alloc ?_ (by first | (simp; done) | (simp; omega)) _)
    · have := hb1.size; simp; omega
set_option maxHeartbeats 4000000 in
theorem law_cops2 (w : World) (op : Int) (x : UInt8) (hx : (x.toNat : Int) % 6 = 2) (ho : -9223372036854775808 ≤ op ∧ op ≤ 9223372036854775807) :
    Calls Try.prog 6 #[.int .i64 op, .int .u8 (x.toNat : Int)] w fun e w' => e = .returned (.bool true) ∧ Below w.heap.size w w' := by
  have h6 : op = 0 ∨ op = 1 ∨ op = 2 ∨ op = 3 ∨ op = 4 ∨ (op < 0 ∨ 4 < op) := by omega
  rcases h6 with rfl | rfl | rfl | rfl | rfl | h6
  · have hck : checkM (cmOf 0 0 0 1 0 0 []) = 1 := rfl
    have HCK := Go.Lib.hid hck
    clear hck
    clear ho
    go_enter Try.func6, Try.ntmps6
    go_wp2_with (first
      | (go_at_call 10; refine (cawake_any _).mono ?_; rintro e w1 ⟨rfl, hb1⟩)
      | (go_at_call 18; refine (check_any _ 0 1 0 0 0 0 0 0 none [] (rdW_nil _)).mono ?_; rw [HCK.out]; rintro e w2 ⟨rfl, hb2⟩))
    go_ret
    refine ⟨by simp, ?_⟩
    refine NB.bel (NB.bel hb1 (?_ : Below w1.heap.size w1 _) hb1.size) hb2 ?_
    · repeat (first | exact Below.refl _ _ | refine Below.alloc ?_ (by first | (simp; done) | (simp; omega)) _)
    · have := hb1.size; simp; omega
  · have hck : checkM (cmOf 1 0 0 1 2 0 []) = 0 := rfl
    have HCK := Go.Lib.hid hck
    clear hck
    clear ho
    go_enter Try.func6, Try.ntmps6
    go_wp2_with (first
      | (go_at_call 10; refine (cawake_any _).mono ?_; rintro e w1 ⟨rfl, hb1⟩)
      | (go_at_call 18; refine (check_any _ 1 1 2 0 0 0 0 0 none [] (rdW_nil _)).mono ?_; rw [HCK.out]; rintro e w2 ⟨rfl, hb2⟩))
    go_ret
    refine ⟨by simp, ?_⟩
    refine NB.bel (NB.bel hb1 (?_ : Below w1.heap.size w1 _) hb1.size) hb2 ?_
    · repeat (first | exact Below.refl _ _ | refine Below.alloc ?_ (by first | (simp; done) | (simp; omega)) _)
    · have := hb1.size; simp; omega
  · have hck : checkM (cmOf 2 0 0 1 0 0 []) = 0 := rfl
    have HCK := Go.Lib.hid hck
    clear hck
    clear ho
    go_enter Try.func6, Try.ntmps6
    go_wp2_with (first
      | (go_at_call 10; refine (cawake_any _).mono ?_; rintro e w1 ⟨rfl, hb1⟩)
      | (go_at_call 18; refine (check_any _ 2 1 0 0 0 0 0 0 none [] (rdW_nil _)).mono ?_; rw [HCK.out]; rintro e w2 ⟨rfl, hb2⟩))
    go_ret
    refine ⟨by simp, ?_⟩
    refine NB.bel (NB.bel hb1 (?_ : Below w1.heap.size w1 _) hb1.size) hb2 ?_
    · repeat (first | exact Below.refl _ _ | refine Below.alloc ?_ (by first | (simp; done) | (simp; omega)) _)
    · have := hb1.size; simp; omega
  · have hck : checkM (cmOf 3 0 0 1 0 0 []) = 1 := rfl
    have HCK := Go.Lib.hid hck
    clear hck
    clear ho
    go_enter Try.func6, Try.ntmps6
    go_wp2_with (first
      | (go_at_call 10; refine (cawake_any _).mono ?_; rintro e w1 ⟨rfl, hb1⟩)
      | (go_at_call 18; refine (check_any _ 3 1 0 0 0 0 0 0 none [] (rdW_nil _)).mono ?_; rw [HCK.out]; rintro e w2 ⟨rfl, hb2⟩))
    go_ret
    refine ⟨by simp, ?_⟩
    refine NB.bel (NB.bel hb1 (?_ : Below w1.heap.size w1 _) hb1.size) hb2 ?_
    · repeat (first | exact Below.refl _ _ | refine Below.alloc ?_ (by first | (simp; done) | (simp; omega)) _)
    · have := hb1.size; simp; omega
  · have hck : checkM (cmOf 4 0 0 1 0 0 []) = 1 := rfl
    have HCK := Go.Lib.hid hck
    clear hck
    clear ho
    go_enter Try.func6, Try.ntmps6
    go_wp2_with (first
      | (go_at_call 10; refine (cawake_any _).mono ?_; rintro e w1 ⟨rfl, hb1⟩)
      | (go_at_call 18; refine (check_any _ 4 1 0 0 0 0 0 0 none [] (rdW_nil _)).mono ?_; rw [HCK.out]; rintro e w2 ⟨rfl, hb2⟩))
    go_ret
    refine ⟨by simp, ?_⟩
    refine NB.bel (NB.bel hb1 (?_ : Below w1.heap.size w1 _) hb1.size) hb2 ?_
    · repeat (first | exact Below.refl _ _ | refine Below.alloc ?_ (by first | (simp; done) | (simp; omega)) _)
    · have := hb1.size; simp; omega
  · have hck : checkM (cmOf op 0 0 1 0 0 []) = 1 := check_far h6
    have HCK := Go.Lib.hid hck
    clear hck
    have n1 : (op == 1) = false := by simp; omega
    have n2 : (op == 2) = false := by simp; omega
    have n3 : (op == 3) = false := by simp; omega
    have n4 : (op == 4) = false := by simp; omega
    clear h6
    clear ho
    go_enter Try.func6, Try.ntmps6
    go_wp2_with (first
      | (go_at_call 10; refine (cawake_any _).mono ?_; rintro e w1 ⟨rfl, hb1⟩)
      | (go_at_call 18; refine (check_any _ op 1 0 0 0 0 0 0 none [] (rdW_nil _)).mono ?_; rw [HCK.out]; rintro e w2 ⟨rfl, hb2⟩))
    go_ret
    refine ⟨by simp, ?_⟩
    refine NB.bel (NB.bel hb1 (?_ : Below w1.heap.size w1 _) hb1.size) hb2 ?_
    · repeat (first | exact Below.refl _ _ | refine Below.alloc ?_ (by first | (simp; done) | (simp; omega)) _)
    · have := hb1.size; simp; omega
set_option maxHeartbeats 4000000 in
theorem law_cops3 (w : World) (op : Int) (x : UInt8) (hx : (x.toNat : Int) % 6 = 3) (ho : -9223372036854775808 ≤ op ∧ op ≤ 9223372036854775807) :
    Calls Try.prog 6 #[.int .i64 op, .int .u8 (x.toNat : Int)] w fun e w' => e = .returned (.bool true) ∧ Below w.heap.size w w' := by
  have h6 : op = 0 ∨ op = 1 ∨ op = 2 ∨ op = 3 ∨ op = 4 ∨ (op < 0 ∨ 4 < op) := by omega
  rcases h6 with rfl | rfl | rfl | rfl | rfl | h6
  · have hck : checkM (cmOf 0 0 0 0 1 0 []) = 1 := rfl
    have HCK := Go.Lib.hid hck
    clear hck
    clear ho
    go_enter Try.func6, Try.ntmps6
    go_wp2_with (first
      | (go_at_call 10; refine (cawake_any _).mono ?_; rintro e w1 ⟨rfl, hb1⟩)
      | (go_at_call 18; refine (check_any _ 0 0 1 0 0 0 0 0 none [] (rdW_nil _)).mono ?_; rw [HCK.out]; rintro e w2 ⟨rfl, hb2⟩))
    go_ret
    refine ⟨by simp, ?_⟩
    refine NB.bel (NB.bel hb1 (?_ : Below w1.heap.size w1 _) hb1.size) hb2 ?_
    · repeat (first | exact Below.refl _ _ | refine Below.alloc ?_ (by first | (simp; done) | (simp; omega)) _)
    · have := hb1.size; simp; omega
  · have hck : checkM (cmOf 1 0 0 0 1 0 []) = 0 := rfl
    have HCK := Go.Lib.hid hck
    clear hck
    clear ho
    go_enter Try.func6, Try.ntmps6
    go_wp2_with (first
      | (go_at_call 10; refine (cawake_any _).mono ?_; rintro e w1 ⟨rfl, hb1⟩)
      | (go_at_call 18; refine (check_any _ 1 0 1 0 0 0 0 0 none [] (rdW_nil _)).mono ?_; rw [HCK.out]; rintro e w2 ⟨rfl, hb2⟩))
    go_ret
    refine ⟨by simp, ?_⟩
    refine NB.bel (NB.bel hb1 (?_ : Below w1.heap.size w1 _) hb1.size) hb2 ?_
    · repeat (first | exact Below.refl _ _ | refine Below.alloc ?_ (by first | (simp; done) | (simp; omega)) _)
    · have := hb1.size; simp; omega
  · have hck : checkM (cmOf 2 0 0 0 1 0 []) = 1 := rfl
    have HCK := Go.Lib.hid hck
    clear hck
    clear ho
    go_enter Try.func6, Try.ntmps6
    go_wp2_with (first
      | (go_at_call 10; refine (cawake_any _).mono ?_; rintro e w1 ⟨rfl, hb1⟩)
      | (go_at_call 18; refine (check_any _ 2 0 1 0 0 0 0 0 none [] (rdW_nil _)).mono ?_; rw [HCK.out]; rintro e w2 ⟨rfl, hb2⟩))
    go_ret
    refine ⟨by simp, ?_⟩
    refine NB.bel (NB.bel hb1 (?_ : Below w1.heap.size w1 _) hb1.size) hb2 ?_
    · repeat (first | exact Below.refl _ _ | refine Below.alloc ?_ (by first | (simp; done) | (simp; omega)) _)
    · have := hb1.size; simp; omega
  · have hck : checkM (cmOf 3 0 0 0 1 0 []) = 1 := rfl
    have HCK := Go.Lib.hid hck
    clear hck
    clear ho
    go_enter Try.func6, Try.ntmps6
    go_wp2_with (first
      | (go_at_call 10; refine (cawake_any _).mono ?_; rintro e w1 ⟨rfl, hb1⟩)
      | (go_at_call 18; refine (check_any _ 3 0 1 0 0 0 0 0 none [] (rdW_nil _)).mono ?_; rw [HCK.out]; rintro e w2 ⟨rfl, hb2⟩))
    go_ret
    refine ⟨by simp, ?_⟩
    refine NB.bel (NB.bel hb1 (?_ : Below w1.heap.size w1 _) hb1.size) hb2 ?_
    · repeat (first | exact Below.refl _ _ | refine Below.alloc ?_ (by first | (simp; done) | (simp; omega)) _)
    · have := hb1.size; simp; omega
  · have hck : checkM (cmOf 4 0 0 0 1 0 []) = 1 := rfl
    have HCK := Go.Lib.hid hck
    clear hck
    clear ho
    go_enter Try.func6, Try.ntmps6
    go_wp2_with (first
      | (go_at_call 10; refine (cawake_any _).mono ?_; rintro e w1 ⟨rfl, hb1⟩)
      | (go_at_call 18; refine (check_any _ 4 0 1 0 0 0 0 0 none [] (rdW_nil _)).mono ?_; rw [HCK.out]; rintro e w2 ⟨rfl, hb2⟩))
    go_ret
    refine ⟨by simp, ?_⟩
    refine NB.bel (NB.bel hb1 (?_ : Below w1.heap.size w1 _) hb1.size) hb2 ?_
    · repeat (first | exact Below.refl _ _ | refine Below.alloc ?_ (by first | (simp; done) | (simp; omega)) _)
    · have := hb1.size; simp; omega
  · have hck : checkM (cmOf op 0 0 0 1 0 []) = 1 := check_far h6
    have HCK := Go.Lib.hid hck
    clear hck
    have n1 : (op == 1) = false := by simp; omega
    have n2 : (op == 2) = false := by simp; omega
    have n3 : (op == 3) = false := by simp; omega
    have n4 : (op == 4) = false := by simp; omega
    clear h6
    clear ho
    go_enter Try.func6, Try.ntmps6
    go_wp2_with (first
      | (go_at_call 10; refine (cawake_any _).mono ?_; rintro e w1 ⟨rfl, hb1⟩)
      | (go_at_call 18; refine (check_any _ op 0 1 0 0 0 0 0 none [] (rdW_nil _)).mono ?_; rw [HCK.out]; rintro e w2 ⟨rfl, hb2⟩))
    go_ret
    refine ⟨by simp, ?_⟩
    refine NB.bel (NB.bel hb1 (?_ : Below w1.heap.size w1 _) hb1.size) hb2 ?_
    · repeat (first | exact Below.refl _ _ | refine Below.alloc ?_ (by first | (simp; done) | (simp; omega)) _)
    · have := hb1.size; simp; omega
set_option maxHeartbeats 4000000 in
theorem law_cops4 (w : World) (op : Int) (x : UInt8) (hx : (x.toNat : Int) % 6 = 4) (ho : -9223372036854775808 ≤ op ∧ op ≤ 9223372036854775807) :
    Calls Try.prog 6 #[.int .i64 op, .int .u8 (x.toNat : Int)] w fun e w' => e = .returned (.bool true) ∧ Below w.heap.size w w' := by
  have h6 : op = 0 ∨ op = 1 ∨ op = 2 ∨ op = 3 ∨ op = 4 ∨ (op < 0 ∨ 4 < op) := by omega
  rcases h6 with rfl | rfl | rfl | rfl | rfl | h6
  · have hck : checkM (cmOf 0 0 0 0 0 1 []) = 1 := rfl
    have HCK := Go.Lib.hid hck
    clear hck
    clear ho
    go_enter Try.func6, Try.ntmps6
    go_wp2_with (first
      | (go_at_call 10; refine (cawake_any _).mono ?_; rintro e w1 ⟨rfl, hb1⟩)
      | (go_at_call 18; refine (check_any _ 0 0 0 0 0 1 0 0 none [] (rdW_nil _)).mono ?_; rw [HCK.out]; rintro e w2 ⟨rfl, hb2⟩))
    go_ret
    refine ⟨by simp, ?_⟩
    refine NB.bel (NB.bel hb1 (?_ : Below w1.heap.size w1 _) hb1.size) hb2 ?_
    · repeat (first | exact Below.refl _ _ | refine Below.alloc ?_ (by first | (simp; done) | (simp; omega)) _)
    · have := hb1.size; simp; omega
  · have hck : checkM (cmOf 1 0 0 0 2 1 []) = 1 := rfl
    have HCK := Go.Lib.hid hck
    clear hck
    clear ho
    go_enter Try.func6, Try.ntmps6
    go_wp2_with (first
      | (go_at_call 10; refine (cawake_any _).mono ?_; rintro e w1 ⟨rfl, hb1⟩)
      | (go_at_call 18; refine (check_any _ 1 0 2 0 0 1 0 0 none [] (rdW_nil _)).mono ?_; rw [HCK.out]; rintro e w2 ⟨rfl, hb2⟩))
    go_ret
    refine ⟨by simp, ?_⟩
    refine NB.bel (NB.bel hb1 (?_ : Below w1.heap.size w1 _) hb1.size) hb2 ?_
    · repeat (first | exact Below.refl _ _ | refine Below.alloc ?_ (by first | (simp; done) | (simp; omega)) _)
    · have := hb1.size; simp; omega
  · have hck : checkM (cmOf 2 0 0 0 0 1 []) = 1 := rfl
    have HCK := Go.Lib.hid hck
    clear hck
    clear ho
    go_enter Try.func6, Try.ntmps6
    go_wp2_with (first
      | (go_at_call 10; refine (cawake_any _).mono ?_; rintro e w1 ⟨rfl, hb1⟩)
      | (go_at_call 18; refine (check_any _ 2 0 0 0 0 1 0 0 none [] (rdW_nil _)).mono ?_; rw [HCK.out]; rintro e w2 ⟨rfl, hb2⟩))
    go_ret
    refine ⟨by simp, ?_⟩
    refine NB.bel (NB.bel hb1 (?_ : Below w1.heap.size w1 _) hb1.size) hb2 ?_
    · repeat (first | exact Below.refl _ _ | refine Below.alloc ?_ (by first | (simp; done) | (simp; omega)) _)
    · have := hb1.size; simp; omega
  · have hck : checkM (cmOf 3 0 0 0 0 1 []) = 0 := rfl
    have HCK := Go.Lib.hid hck
    clear hck
    clear ho
    go_enter Try.func6, Try.ntmps6
    go_wp2_with (first
      | (go_at_call 10; refine (cawake_any _).mono ?_; rintro e w1 ⟨rfl, hb1⟩)
      | (go_at_call 18; refine (check_any _ 3 0 0 0 0 1 0 0 none [] (rdW_nil _)).mono ?_; rw [HCK.out]; rintro e w2 ⟨rfl, hb2⟩))
    go_ret
    refine ⟨by simp, ?_⟩
    refine NB.bel (NB.bel hb1 (?_ : Below w1.heap.size w1 _) hb1.size) hb2 ?_
    · repeat (first | exact Below.refl _ _ | refine Below.alloc ?_ (by first | (simp; done) | (simp; omega)) _)
    · have := hb1.size; simp; omega
  · have hck : checkM (cmOf 4 0 0 0 0 1 []) = 1 := rfl
    have HCK := Go.Lib.hid hck
    clear hck
    clear ho
    go_enter Try.func6, Try.ntmps6
    go_wp2_with (first
      | (go_at_call 10; refine (cawake_any _).mono ?_; rintro e w1 ⟨rfl, hb1⟩)
      | (go_at_call 18; refine (check_any _ 4 0 0 0 0 1 0 0 none [] (rdW_nil _)).mono ?_; rw [HCK.out]; rintro e w2 ⟨rfl, hb2⟩))
    go_ret
    refine ⟨by simp, ?_⟩
    refine NB.bel (NB.bel hb1 (?_ : Below w1.heap.size w1 _) hb1.size) hb2 ?_
    · repeat (first | exact Below.refl _ _ | refine Below.alloc ?_ (by first | (simp; done) | (simp; omega)) _)
    · have := hb1.size; simp; omega
  · have hck : checkM (cmOf op 0 0 0 0 1 []) = 1 := check_far h6
    have HCK := Go.Lib.hid hck
    clear hck
    have n1 : (op == 1) = false := by simp; omega
    have n2 : (op == 2) = false := by simp; omega
    have n3 : (op == 3) = false := by simp; omega
    have n4 : (op == 4) = false := by simp; omega
    clear h6
    clear ho
    go_enter Try.func6, Try.ntmps6
    go_wp2_with (first
      | (go_at_call 10; refine (cawake_any _).mono ?_; rintro e w1 ⟨rfl, hb1⟩)
      | (go_at_call 18; refine (check_any _ op 0 0 0 0 1 0 0 none [] (rdW_nil _)).mono ?_; rw [HCK.out]; rintro e w2 ⟨rfl, hb2⟩))
    go_ret
    refine ⟨by simp, ?_⟩
    refine NB.bel (NB.bel hb1 (?_ : Below w1.heap.size w1 _) hb1.size) hb2 ?_
    · repeat (first | exact Below.refl _ _ | refine Below.alloc ?_ (by first | (simp; done) | (simp; omega)) _)
    · have := hb1.size; simp; omega
set_option maxHeartbeats 4000000 in
theorem law_cops5 (w : World) (op : Int) (x : UInt8) (hx : (x.toNat : Int) % 6 = 5) (ho : -9223372036854775808 ≤ op ∧ op ≤ 9223372036854775807) :
    Calls Try.prog 6 #[.int .i64 op, .int .u8 (x.toNat : Int)] w fun e w' => e = .returned (.bool true) ∧ Below w.heap.size w w' := by
  have h6 : op = 0 ∨ op = 1 ∨ op = 2 ∨ op = 3 ∨ op = 4 ∨ (op < 0 ∨ 4 < op) := by omega
  rcases h6 with rfl | rfl | rfl | rfl | rfl | h6
  · have hck : ∀ A : Nat, checkM (cmOf 0 0 0 0 0 0 [⟨0, some ⟨A, 0, none⟩, 1, 1, [1]⟩]) = 1 := fun _ => rfl
    have HCK := Go.Lib.hid hck
    clear hck
    clear ho
    go_enter Try.func6, Try.ntmps6
    go_wp2_with (go_at_call 10; refine (cawake_any _).mono ?_; rintro e w1 ⟨rfl, hb1⟩)
    refine (check_any _ 0 0 0 0 0 0 1 1 _ _ (rdW_one _ (by simp) (rdU_one _ (by simp) _) _)).mono ?_
    rw [HCK.out]
    rintro e w2 ⟨rfl, hb2⟩
    go_wp2_with fail
    go_ret
    refine ⟨by simp, ?_⟩
    refine NB.bel (NB.bel hb1 (?_ : Below w1.heap.size w1 _) hb1.size) hb2 ?_
    · repeat (first | exact Below.refl _ _ | refine Below.alloc ?_ (by first | (simp; done) | (simp; omega)) _)
    · have := hb1.size; simp; omega
  · have hck : ∀ A : Nat, checkM (cmOf 1 0 0 0 2 0 [⟨0, some ⟨A, 0, none⟩, 1, 1, [1]⟩]) = 1 := fun _ => rfl
    have HCK := Go.Lib.hid hck
    clear hck
    clear ho
    go_enter Try.func6, Try.ntmps6
    go_wp2_with (go_at_call 10; refine (cawake_any _).mono ?_; rintro e w1 ⟨rfl, hb1⟩)
    refine (check_any _ 1 0 2 0 0 0 1 1 _ _ (rdW_one _ (by simp) (rdU_one _ (by simp) _) _)).mono ?_
    rw [HCK.out]
    rintro e w2 ⟨rfl, hb2⟩
    go_wp2_with fail
    go_ret
    refine ⟨by simp, ?_⟩
    refine NB.bel (NB.bel hb1 (?_ : Below w1.heap.size w1 _) hb1.size) hb2 ?_
    · repeat (first | exact Below.refl _ _ | refine Below.alloc ?_ (by first | (simp; done) | (simp; omega)) _)
    · have := hb1.size; simp; omega
  · have hck : ∀ A : Nat, checkM (cmOf 2 0 0 0 0 0 [⟨0, some ⟨A, 0, none⟩, 1, 1, [1]⟩]) = 0 := fun _ => rfl
    have HCK := Go.Lib.hid hck
    clear hck
    clear ho
    go_enter Try.func6, Try.ntmps6
    go_wp2_with (go_at_call 10; refine (cawake_any _).mono ?_; rintro e w1 ⟨rfl, hb1⟩)
    refine (check_any _ 2 0 0 0 0 0 1 1 _ _ (rdW_one _ (by simp) (rdU_one _ (by simp) _) _)).mono ?_
    rw [HCK.out]
    rintro e w2 ⟨rfl, hb2⟩
    go_wp2_with fail
    go_ret
    refine ⟨by simp, ?_⟩
    refine NB.bel (NB.bel hb1 (?_ : Below w1.heap.size w1 _) hb1.size) hb2 ?_
    · repeat (first | exact Below.refl _ _ | refine Below.alloc ?_ (by first | (simp; done) | (simp; omega)) _)
    · have := hb1.size; simp; omega
  · have hck : ∀ A : Nat, checkM (cmOf 3 0 0 0 0 0 [⟨0, some ⟨A, 0, none⟩, 1, 1, [1]⟩]) = 1 := fun _ => rfl
    have HCK := Go.Lib.hid hck
    clear hck
    clear ho
    go_enter Try.func6, Try.ntmps6
    go_wp2_with (go_at_call 10; refine (cawake_any _).mono ?_; rintro e w1 ⟨rfl, hb1⟩)
    refine (check_any _ 3 0 0 0 0 0 1 1 _ _ (rdW_one _ (by simp) (rdU_one _ (by simp) _) _)).mono ?_
    rw [HCK.out]
    rintro e w2 ⟨rfl, hb2⟩
    go_wp2_with fail
    go_ret
    refine ⟨by simp, ?_⟩
    refine NB.bel (NB.bel hb1 (?_ : Below w1.heap.size w1 _) hb1.size) hb2 ?_
    · repeat (first | exact Below.refl _ _ | refine Below.alloc ?_ (by first | (simp; done) | (simp; omega)) _)
    · have := hb1.size; simp; omega
  · have hck : ∀ A : Nat, checkM (cmOf 4 0 0 0 0 0 [⟨0, some ⟨A, 0, none⟩, 1, 1, [1]⟩]) = 0 := fun _ => rfl
    have HCK := Go.Lib.hid hck
    clear hck
    clear ho
    go_enter Try.func6, Try.ntmps6
    go_wp2_with (go_at_call 10; refine (cawake_any _).mono ?_; rintro e w1 ⟨rfl, hb1⟩)
    refine (check_any _ 4 0 0 0 0 0 1 1 _ _ (rdW_one _ (by simp) (rdU_one _ (by simp) _) _)).mono ?_
    rw [HCK.out]
    rintro e w2 ⟨rfl, hb2⟩
    go_wp2_with fail
    go_ret
    refine ⟨by simp, ?_⟩
    refine NB.bel (NB.bel hb1 (?_ : Below w1.heap.size w1 _) hb1.size) hb2 ?_
    · repeat (first | exact Below.refl _ _ | refine Below.alloc ?_ (by first | (simp; done) | (simp; omega)) _)
    · have := hb1.size; simp; omega
  · have hck : ∀ A : Nat, checkM (cmOf op 0 0 0 0 0 [⟨0, some ⟨A, 0, none⟩, 1, 1, [1]⟩]) = 1 := fun _ => check_far h6
    have HCK := Go.Lib.hid hck
    clear hck
    have n1 : (op == 1) = false := by simp; omega
    have n2 : (op == 2) = false := by simp; omega
    have n3 : (op == 3) = false := by simp; omega
    have n4 : (op == 4) = false := by simp; omega
    clear h6
    clear ho
    go_enter Try.func6, Try.ntmps6
    go_wp2_with (go_at_call 10; refine (cawake_any _).mono ?_; rintro e w1 ⟨rfl, hb1⟩)
    refine (check_any _ op 0 0 0 0 0 1 1 _ _ (rdW_one _ (by simp) (rdU_one _ (by simp) _) _)).mono ?_
    rw [HCK.out]
    rintro e w2 ⟨rfl, hb2⟩
    go_wp2_with fail
    go_ret
    refine ⟨by simp, ?_⟩
    refine NB.bel (NB.bel hb1 (?_ : Below w1.heap.size w1 _) hb1.size) hb2 ?_
    · repeat (first | exact Below.refl _ _ | refine Below.alloc ?_ (by first | (simp; done) | (simp; omega)) _)
    · have := hb1.size; simp; omega
theorem law_cops (w : World) (op x : Int) (ho : (Lit.int .i64 op).wf = true) (hx : (Lit.int .u8 x).wf = true) :
    Calls Try.prog 6 #[.int .i64 op, .int .u8 x] w fun e w' => e = .returned (.bool true) ∧ Below w.heap.size w w' := by
  obtain ⟨x, rfl⟩ : ∃ K : UInt8, x = (K.toNat : Int) := ⟨UInt8.ofNat x.toNat, (NB.u8_of_wf hx).symm⟩
  have hb := bounds_i64 ho
  have h6 : (x.toNat : Int) % 6 = 0 ∨ (x.toNat : Int) % 6 = 1 ∨ (x.toNat : Int) % 6 = 2 ∨ (x.toNat : Int) % 6 = 3 ∨ (x.toNat : Int) % 6 = 4 ∨ (x.toNat : Int) % 6 = 5 := by omega
  rcases h6 with h6 | h6 | h6 | h6 | h6 | h6
  · exact law_cops0 w op x h6 hb
  · exact law_cops1 w op x h6 hb
  · exact law_cops2 w op x h6 hb
  · exact law_cops3 w op x h6 hb
  · exact law_cops4 w op x h6 hb
  · exact law_cops5 w op x h6 hb
end Go.Proofs.Ytnkmlopgfgdajaa
