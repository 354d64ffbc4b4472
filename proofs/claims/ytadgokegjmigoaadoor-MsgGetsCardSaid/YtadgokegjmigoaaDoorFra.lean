/- Frames, walked: head, Put, Get. -/
import Derived.Test.YtadgokegjmigoaaDoorNumc
import Derived.Test.YtadgokegjmigoaaDoorFrp
import Derived.Test.YtadgokegjmigoaaDoorRw
namespace Go.Proofs.YtadgokegjmigoaaDoor
open Go.RowKit
open Go.NB (Rd Kp Stp Off Dis Rr encU oneB dB Rw)

/-- What 'head' tells. -/
def headM (b : List UInt8) : Nat × Nat × Int := if (Rr.uint ⟨b, 0⟩).1.e ≠ 0 then (0, 0, (Rr.uint ⟨b, 0⟩).1.e) else if 65535 < (Rr.uint ⟨b, 0⟩).2 then (0, 0, 13) else ((b.headD 0).toNat + 1, (Rr.uint ⟨b, 0⟩).2, 0)
def HeadE (w : World) (r : Nat × Nat × Int) (e : Ending) (w' : World) : Prop := e = .returned (.tuple #[.int .i64 (r.1 : Int), .int .i64 (r.2.1 : Int), .int .i64 r.2.2]) ∧ Below w.heap.size w w'

theorem uint_some {b : List UInt8} (h : (Rr.uint ⟨b, 0⟩).1.e = 0) : b ≠ [] := by
  rintro rfl
  exact absurd h (by decide)

set_option maxHeartbeats 1000000 in
theorem fhead_any (w : World) (a : Option Addr) (n c : Nat) (b : List UInt8) (hr : NB.RdB w a n c b) :
    Calls Tryd.prog 47 #[.slice a n c] w (HeadE w (headM b)) := by
  have hsz := NB.RdB.size hr
  have hbd := Rd.bound hr
  have hle := hr.le
  obtain ⟨h9e, h9v⟩ := uint_nine b
  have hult := Rr.uint_lt ⟨b, 0⟩
  have hq : headM b = if (Rr.uint ⟨b, 0⟩).1.e ≠ 0 then (0, 0, (Rr.uint ⟨b, 0⟩).1.e) else if 65535 < (Rr.uint ⟨b, 0⟩).2 then (0, 0, 13) else ((b.headD 0).toNat + 1, (Rr.uint ⟨b, 0⟩).2, 0) := rfl
  have hsome := fun h => uint_some (b := b) h
  have ctu := fun w base p F h => ruint_any w base p F ⟨b.take 9, 0⟩ h
  generalize Rr.uint ⟨b, 0⟩ = u at *
  generalize Rr.uint ⟨b.take 9, 0⟩ = v at *
  have hcs : (n : Int) ≤ 9 ∧ b.take n = b.take 9 ∧ n ≤ 9 ∨ ¬ (n : Int) ≤ 9 ∧ 9 < n := by
    rcases Nat.lt_or_ge 9 n with h | h
    · exact .inr ⟨by omega, h⟩
    · exact .inl ⟨by omega, by rw [List.take_of_length_le (by omega), List.take_of_length_le (by omega)], h⟩
  have HQ := Go.Lib.hid hq; have CTU := Go.Lib.hid ctu; have HS := Go.Lib.hid hsome
  clear hq ctu hsome
  generalize headM b = R at *
  have hnew : ∀ (q : Nat), (q = n ∧ b.take n = b.take 9 ∧ n ≤ 9) ∨ (q = 9 ∧ 9 < n) → Calls Tryd.prog 24 #[.slice a q c] w (NewR w (b.take 9)) := fun q hq => by
    rcases hq with ⟨rfl, h1, h2⟩ | ⟨rfl, h1⟩
    · have := NB.rdB_cut hr q (Nat.le_refl _)
      rw [h1] at this
      exact rnew_any _ _ _ _ _ this (by omega)
    · exact rnew_any _ _ _ _ _ (NB.rdB_cut hr 9 (by omega)) (by omega)
  rcases hcs with ⟨h1, h2, h3⟩ | ⟨h1, h2⟩
  case' inl => have ctn := hnew n (.inl ⟨rfl, h2, h3⟩)
  case' inr =>
    have ctn := hnew 9 (.inr ⟨rfl, h2⟩)
    have h9c : 9 ≤ c := by omega
  all_goals
    clear hnew
    have CTN := Go.Lib.hid ctn; clear ctn
    go_enter Tryd.func47, Tryd.ntmps47
    go_wp2_with fail
    refine CTN.out.mono ?_
    rintro e w1 ⟨p, F1, rfl, hR1, hb1⟩
    clear CTN
    go_wp2_with fail
    refine (CTU.out _ _ _ _ hR1).mono ?_
    rintro e w2 ⟨rfl, F2, hR2, hS2⟩
    have B2 := NB.bel hb1 (hR1.low hS2) (Nat.le_refl _)
    clear hR1 hS2 CTU
    go_wp2_with fail
    refine (rerr_any _ _ _ _ _ hR2).mono ?_
    rintro e w' ⟨rfl, e2⟩
    subst w'
    rw [h9e]
    by_cases he : u.1.e = 0
    · have he' : (u.1.e != 0) = false := by simp [he]
      have hbn := HS.out he
      by_cases hbig : 65535 < u.2
      · have hR : R = (0, 0, 13) := by rw [HQ.out, if_neg (by simp [he]), if_pos hbig]
        have hbi : (65535 : Int) < (u.2 : Int) := by omega
        clear he hbn HQ HS hbig
        go_wp2_with fail
        go_ret3
        rw [hR]
        exact ⟨rfl, B2⟩
      · have hR : R = ((b.headD 0).toNat + 1, u.2, 0) := by rw [HQ.out, if_neg (by simp [he]), if_neg hbig]
        have hbi : ¬ (65535 : Int) < (u.2 : Int) := by omega
        have hn0 : 0 < n := by cases b with
          | nil => exact absurd rfl hbn
          | cons y t => simp at hsz; omega
        obtain ⟨b3, o3, ea, hc3⟩ := NB.RdB.at (hr.below B2) hn0
        subst ea
        have q0 := hc3 0 hn0
        have hhd : b.getD 0 0 = b.headD 0 := by cases b <;> rfl
        rw [hhd, Nat.add_zero] at q0
        have hyl := (b.headD 0).toNat_lt
        clear he hbn HQ HS hbig hc3 hhd
        generalize b.headD 0 = y at *
        go_wp2_with fail
        go_ret3
        rw [hR]
        exact ⟨by simp, B2⟩
    · have he' : (u.1.e != 0) = true := by simp [he]
      have hR : R = (0, 0, u.1.e) := by rw [HQ.out, if_pos he]
      clear he HQ HS
      go_wp2_with fail
      go_ret3
      rw [hR]
      exact ⟨rfl, B2⟩
end Go.Proofs.YtadgokegjmigoaaDoor
