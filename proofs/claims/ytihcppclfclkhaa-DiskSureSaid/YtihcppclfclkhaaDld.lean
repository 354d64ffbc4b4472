/- The walk for the statement DiskStops. -/
import Derived.Test.YtihcppclfclkhaaDlb
import Derived.Test.YtihcppclfclkhaaDskg
import Derived.Test.YtihcppclfclkhaaAny
import Derived.Test.YtihcppclfclkhaaOpen
namespace Go.Proofs.Ytihcppclfclkhaa
open Go.RowKit
open Go.NB (Rd Dk Kp footD Stp Off Dis)

theorem filled_len (b : List UInt8) : (filledL b false).length = 64 := by
  have := padL_len b (min 64 b.length) (by omega) (by omega)
  unfold filledL
  split <;> simp [this]

/-- After 'i' calls of which 'k' go through. -/
def StInv (k i : Nat) (D : Dk) : Prop := D.left = ((k - i : Nat) : Int) ∧ D.down = decide (k < i) ∧ D.waits.length ≤ i ∧ D.l.length = 3
theorem st_w {k i : Nat} {D : Dk} (h : StInv k i D) (y : Nat) (hy : y < 3) (b : List UInt8) (hb : b.length = 64) : StInv k (i + 1) (D.write y b).1 ∧ (D.write y b).2 = if i < k then 0 else 20 := by
  obtain ⟨h1, h2, h3, h4⟩ := h
  have hn : ¬ ((y : Int) < 0 ∨ (D.l.length : Int) ≤ (y : Int)) := by omega
  by_cases hik : i < k
  · have hd : D.down = false := by rw [h2]; simp; omega
    have ha : D.at_ y = 0 := by simp only [Dk.at_, hd, hn, if_false]; rfl
    have hl : D.left ≠ 0 := by omega
    have hw : D.write y b = ({ D with left := max (D.left - 1) (-1), waits := D.waits ++ [((y : Int).toNat, b)] }, 0) := by simp [Dk.write, ha, hb, hl]
    rw [hw, if_pos hik]
    refine ⟨⟨?_, ?_, ?_, h4⟩, rfl⟩
    · simp only; omega
    · simp only [hd]; symm; simp; omega
    · simp; omega
  · by_cases he : i = k
    · have hd : D.down = false := by rw [h2]; simp; omega
      have ha : D.at_ y = 0 := by simp only [Dk.at_, hd, hn, if_false]; rfl
      have hl : D.left = 0 := by omega
      have hw : D.write y b = ({ D with down := true }, 20) := by simp [Dk.write, ha, hb, hl]
      rw [hw, if_neg hik]
      refine ⟨⟨?_, ?_, ?_, h4⟩, rfl⟩
      · simp only; omega
      · simp only; symm; simp; omega
      · simp only; omega
    · have hd : D.down = true := by rw [h2]; simp; omega
      have ha : D.at_ y = 20 := by simp [Dk.at_, hd]
      have hw : D.write y b = (D, 20) := by simp [Dk.write, ha]
      rw [hw, if_neg hik]
      refine ⟨⟨?_, ?_, ?_, h4⟩, rfl⟩
      · simp only; omega
      · simp only [hd]; symm; simp; omega
      · simp only; omega
theorem st_s {k i : Nat} {D : Dk} (h : StInv k i D) : StInv k (i + 1) D.sync.1 ∧ D.sync.2 = if i < k then 0 else 20 := by
  obtain ⟨h1, h2, h3, h4⟩ := h
  by_cases hik : i < k
  · have hd : D.down = false := by rw [h2]; simp; omega
    have hl : D.left ≠ 0 := by omega
    have hw : D.sync = ({ D with left := max (D.left - 1) (-1), l := Dk.lay D.l D.waits, waits := [] }, 0) := by simp [Dk.sync, hd, hl]
    rw [hw, if_pos hik]
    refine ⟨⟨?_, ?_, ?_, by simp [lay_len, h4]⟩, rfl⟩
    · simp only; omega
    · simp only [hd]; symm; simp; omega
    · simp
  · by_cases he : i = k
    · have hd : D.down = false := by rw [h2]; simp; omega
      have hl : D.left = 0 := by omega
      have hw : D.sync = ({ D with down := true }, 20) := by simp [Dk.sync, hd, hl]
      rw [hw, if_neg hik]
      refine ⟨⟨?_, ?_, ?_, h4⟩, rfl⟩
      · simp only; omega
      · simp only; symm; simp; omega
      · simp only; omega
    · have hd : D.down = true := by rw [h2]; simp; omega
      have hw : D.sync = (D, 20) := by simp [Dk.sync, hd]
      rw [hw, if_neg hik]
      refine ⟨⟨?_, ?_, ?_, h4⟩, rfl⟩
      · simp only; omega
      · simp only [hd]; symm; simp; omega
      · simp only; omega
theorem st_0 (k : Nat) : StInv k 0 ((Dk.fresh 3).stop k) := by
  refine ⟨?_, ?_, ?_, ?_⟩
  · simp only [Dk.stop]; omega
  · simp [Dk.stop, Dk.fresh]
  · simp [Dk.stop, Dk.fresh]
  · simp [Dk.stop, Dk.fresh]

set_option maxHeartbeats 4000000 in
theorem law_stops (w : World) (x : Int) (a : Option Addr) (n c : Nat) (t : List UInt8) (hx : (Lit.int .u8 x).wf = true) (h : NB.RdB w a n c t) :
    Calls Try.prog 8 #[.int .u8 x, .slice a n c] w fun e w' => e = .returned (.bool true) ∧ Below w.heap.size w w' := by
  have bx := bounds_u8 hx
  have hbd := Rd.bound h
  by_cases hn : n ≤ 40
  · have hnz : (n : Int) ≤ 40 := by omega
    obtain ⟨k, hk⟩ : ∃ k : Nat, x % 30 = (k : Int) := ⟨(x % 30).toNat, by omega⟩
    have hk30 : k < 30 := by omega
    go_enter Try.func8, Try.ntmps8
    go_wp2_with (first
      | (go_at_call 9; refine (awake_any _).mono ?_; rintro e w1 ⟨rfl, hb1⟩)
      | (go_at_call 10; refine (dnew_any _ 3 (by omega) (by omega)).mono ?_; rintro e w2 ⟨p, F2, rfl, hD2, hb2⟩; have B2 := bel hb1 hb2 hb1.size)
      | (go_at_call 21; refine (dstop_any _ _ _ _ _ (k : Int) (by omega) hD2).mono ?_; rintro e w3 ⟨rfl, F3, hD3, hS3⟩; have B3 := bel B2 (hD2.low hS3) hb1.size))
    have hI := st_0 k
    have hbase := hb1.size
    generalize hr0 : ((Dk.fresh 3).stop k) = r0 at *
    clear hr0 hb2 hS3 hD2 B2 hb1
    go_loopw [9] (fun i wr => ∃ (m : Nat) (D : Dk) (F : Nat → Prop), m ≤ n ∧ i = .int .i64 m ∧ HasD wr w1.heap.size p F D ∧ StInv k m D ∧ Below w.heap.size w wr) (fun i _ => n - (intOf i).toNat)
    case atStart => exact ⟨0, r0, F3, by omega, rfl, hD3, hI, B3⟩
    case round =>
      clear B3 hD3 hI
      obtain ⟨m, D, F, hm, rfl, hD, hI, hB⟩ := hrel
      have hww : D.waits.length ≤ 1000000 := by have := hI.2.2.1; omega
      by_cases hlt : m < n
      · obtain ⟨b3, o3, rfl, hc3⟩ := NB.RdB.at (h.below hB) (by omega)
        have q3 := hc3 m hlt
        clear hc3
        generalize t.getD m 0 = y at *
        have hy := y.toNat_lt
        have hki : (m : Int) < (n : Int) := by omega
        by_cases hp : (bits .and .u8 (y.toNat : Int) 3 == 0) = true
        · obtain ⟨hI', hE⟩ := st_s hI
          by_cases hmk : m < k
          · rw [if_pos hmk] at hE
            have hmk' : (m : Int) < (k : Int) := by omega
            have hdn : D.sync.1.down = false := by rw [hI'.2.1]; simp; omega
            have HE := Go.Lib.hid hE; have HD := Go.Lib.hid hdn; have HI := Go.Lib.hid hI; clear hE hdn hI
            go_wp2_with (first
              | (go_at_call 13; refine (dsync_any _ _ _ _ _ hD hww).mono ?_; rintro e w4 ⟨rfl, F4, hD4, hS4⟩; rw [HE.out])
              | (go_at_call 17; refine (ddown_any _ _ _ _ _ hD4).mono ?_; rw [HD.out]; rintro e w' ⟨rfl, e2⟩; subst w'))
            go_roundw
            case rel => exact ⟨m + 1, _, F4, by omega, by go_num, hD4, hI', bel hB (hD.low hS4) hbase⟩
            case measure => simp [intOf]; omega
          · rw [if_neg hmk] at hE
            have hmk' : ¬ (m : Int) < (k : Int) := by omega
            have hdn : D.sync.1.down = true := by rw [hI'.2.1]; simp; omega
            have HE := Go.Lib.hid hE; have HD := Go.Lib.hid hdn; have HI := Go.Lib.hid hI; clear hE hdn hI
            go_wp2_with (first
              | (go_at_call 13; refine (dsync_any _ _ _ _ _ hD hww).mono ?_; rintro e w4 ⟨rfl, F4, hD4, hS4⟩; rw [HE.out])
              | (go_at_call 17; refine (ddown_any _ _ _ _ _ hD4).mono ?_; rw [HD.out]; rintro e w' ⟨rfl, e2⟩; subst w'))
            go_roundw
            case rel => exact ⟨m + 1, _, F4, by omega, by go_num, hD4, hI', bel hB (hD.low hS4) hbase⟩
            case measure => simp [intOf]; omega
        · have hp' : (bits .and .u8 (y.toNat : Int) 3 == 0) = false := by simpa using hp
          clear hp
          obtain ⟨j, hj⟩ : ∃ j : Nat, y.toNat % 3 = j := ⟨_, rfl⟩
          have hj3 : j < 3 := by omega
          have hj1 : (y.toNat : Int) % 3 = (j : Int) := by omega
          have hj2 : (y.toNat : Int).tmod 3 = (j : Int) := by rw [Int.tmod_eq_emod_of_nonneg (by omega)]; exact hj1
          have hj4 : IntKind.u8.wrap (j : Int) = (j : Int) := by rw [IntKind.wrap_u8]; omega
          have hj5 : IntKind.i64.wrap (j : Int) = (j : Int) := IntWalk.i64_in _ (by omega)
          clear hj
          obtain ⟨hI', hE⟩ := st_w hI j hj3 _ (filled_len [])
          have HI := Go.Lib.hid hI; have HI' := Go.Lib.hid hI'; have HE := Go.Lib.hid hE; clear hI hI' hE
          have HJ1 := Go.Lib.hid hj1; have HJ2 := Go.Lib.hid hj2; have HJ4 := Go.Lib.hid hj4; have HJ5 := Go.Lib.hid hj5; clear hj1 hj2 hj4 hj5
          go_wp2_with fail
          refine NB.wp_region_t [8] (by kernel_rfl) ?_
          have hD4 := hD.below (Below.refl _ wr).drew
          have hB4 := hB.drew
          have q4 : wr.drew.cell? ⟨b3, o3 + m, none⟩ = some (.int .u8 (y.toNat : Int)) := q3
          clear hD hB q3
          generalize wr.drew = w4 at *
          have hj1 := HJ1.out; have hj2 := HJ2.out; have hj4 := HJ4.out; have hj5 := HJ5.out
          refine NB.t_p 0 rfl (by kernel_rfl) (fun K hK => ?_); go_simp; refine hK _ ?_; clear hK K
          refine NB.t_p 1 rfl (by kernel_rfl) (fun K hK => ?_); go_simp; refine hK _ ?_; clear hK K
          refine NB.t_p 2 rfl (by kernel_rfl) (fun K hK => ?_); go_simp; refine hK _ ?_; clear hK K
          refine NB.t_p 3 rfl (by kernel_rfl) (fun K hK => ?_); go_simp; refine hK _ ?_; clear hK K
          refine NB.t_r 4 [5, 6, 8, 9] rfl (by kernel_rfl) (by kernel_rfl) rfl _ (fun w' hw' => NB.run_op_load rfl rfl Try.underlying5 rfl q4 hw') (fun K hK => ?_); go_simp; refine hK _ ?_; clear hK K
          refine NB.t_p 5 rfl (by kernel_rfl) (fun K hK => ?_); go_simp; refine hK _ ?_; clear hK K
          refine NB.t_p 6 rfl (by kernel_rfl) (fun K hK => ?_); go_simp; refine hK _ ?_; clear hK K
          clear hj1 hj2 hj4 hj5
          refine NB.t_e 7 rfl (by kernel_rfl) (by kernel_rfl) (fun K hK => ?_); unfold NB.tmoves; go_simp; refine (filled_any _ none 0 0 [] false Rd.nil_mk).mono ?_; rintro e w5 ⟨a5, c5, rfl, ho5, hb5⟩; refine ⟨_, rfl, hb5, hK _ _ ?_⟩; clear hK K
          have of5 := Off.fresh ho5 (fun k hk => (hD4.foot k hk).2)
          have hD5 := hD4.below hb5
          have B5 := bel hB4 hb5 hB4.size
          refine NB.t_w 8 rfl (by kernel_rfl) (by kernel_rfl) rfl (fun Q' hK => ?_)
          go_wp2_with (first
            | (go_at_call 12; refine (dwrite_any _ _ _ _ _ (j : Int) _ _ _ _ hD5 of5 hww).mono ?_; rintro e w6 ⟨rfl, F6, hD6, hS6⟩))
          refine NB.t_p 9 rfl (by kernel_rfl) (fun K hK => ?_); go_simp; refine hK _ ?_; clear hK K
          refine NB.t_end (by kernel_rfl) ?_
          have B6 := bel B5 (hD5.low hS6) hbase
          have HI2 := HI'.out.2.1
          by_cases hmk : m < k
          · rw [HE.out, if_pos hmk]
            have hmk' : (m : Int) < (k : Int) := by omega
            have hdn : (D.write (j : Int) (filledL [] false)).1.down = false := by rw [HI2]; simp; omega
            have HD := Go.Lib.hid hdn; clear hdn HI2
            go_wp2_with (first
              | (go_at_call 17; refine (ddown_any _ _ _ _ _ hD6).mono ?_; rw [HD.out]; rintro e w' ⟨rfl, e2⟩; subst w'))
            go_roundw
            case rel => exact ⟨m + 1, _, F6, by omega, by go_num, hD6, HI'.out, B6⟩
            case measure => simp [intOf]; omega
          · rw [HE.out, if_neg hmk]
            have hmk' : ¬ (m : Int) < (k : Int) := by omega
            have hdn : (D.write (j : Int) (filledL [] false)).1.down = true := by rw [HI2]; simp; omega
            have HD := Go.Lib.hid hdn; clear hdn HI2
            go_wp2_with (first
              | (go_at_call 17; refine (ddown_any _ _ _ _ _ hD6).mono ?_; rw [HD.out]; rintro e w' ⟨rfl, e2⟩; subst w'))
            go_roundw
            case rel => exact ⟨m + 1, _, F6, by omega, by go_num, hD6, HI'.out, B6⟩
            case measure => simp [intOf]; omega
      · obtain rfl : m = n := by omega
        have hcr : D.crash [] = { l := D.l, waits := [], left := -1, down := false } := by
          simp only [Dk.crash]
          cases D.waits <;> rfl
        have HC := Go.Lib.hid hcr; clear hcr
        go_wp2_with fail
        refine (dcrash_any _ _ _ _ _ none 0 0 [] hD ⟨Rd.nil_mk, (fun k o e => nomatch e)⟩ hww).mono ?_
        rw [HC.out]
        rintro e w4 ⟨rfl, F4, hD4, hS4⟩
        have B4 := bel hB (hD.low hS4) hbase
        go_wp2_with (first
          | (go_at_call 21; refine (stop_nil _ _).mono ?_; rintro e w' ⟨rfl, e2⟩; subst w')
          | (go_at_call 15; refine (crash_nil _ _).mono ?_; rintro e w' ⟨rfl, e2⟩; subst w')
          | (go_at_call 14; refine (read_nil _ _).mono ?_; rintro e w5 ⟨a5, c5, rfl, ho5, hb5⟩))
        have hD5 := hD4.below hb5
        have B5 := bel B4 hb5 B4.size
        refine (ddown_any _ _ _ _ _ hD5).mono ?_
        rintro e w' ⟨rfl, e2⟩
        subst w'
        go_wp2_with fail
        have hsy : ({ l := D.l, waits := [], left := -1, down := false } : Dk).sync = ({ l := D.l, waits := [], left := -1, down := false }, 0) := by
          simp [Dk.sync, Dk.lay]
          decide
        refine (dsync_any _ _ _ _ _ hD5 (by simp)).mono ?_
        rw [hsy]
        rintro e w6 ⟨rfl, F6, hD6, hS6⟩
        have B6 := bel B5 (hD5.low hS6) hbase
        clear hsy
        go_wp2_with (first
          | (go_at_call 12; refine (write_nil _ _ _).mono ?_; rintro e w' ⟨rfl, e2⟩; subst w')
          | (go_at_call 13; refine (sync_nil _).mono ?_; rintro e w' ⟨rfl, e2⟩; subst w')
          | (go_at_call 25; refine (len_nil _).mono ?_; rintro e w' ⟨rfl, e2⟩; subst w')
          | (go_at_call 16; refine (waits_nil _).mono ?_; rintro e w' ⟨rfl, e2⟩; subst w')
          | (go_at_call 17; refine (down_nil _).mono ?_; rintro e w' ⟨rfl, e2⟩; subst w'))
        go_ret
        exact ⟨rfl, B6⟩
  · have hnz : ¬ (n : Int) ≤ 40 := by omega
    go_enter Try.func8, Try.ntmps8
    go_wp2_with (first
        | (go_at_call 9; refine (awake_any _).mono ?_; rintro e w1 ⟨rfl, hb1⟩))
    go_ret
    exact ⟨rfl, hb1⟩
end Go.Proofs.Ytihcppclfclkhaa
