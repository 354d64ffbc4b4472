/- The references on commands, walked: small. -/
import Derived.Test.YtnkmlopgfgdajaaCdc
import Derived.Test.YtnkmlopgfgdajaaNrg
import Derived.Test.YtnkmlopgfgdajaaRw
namespace Go.Proofs.Ytnkmlopgfgdajaa
open Go.RowKit
open Go.NB (Rd Kp Stp Rr Rw oneB twoB dB)

/-- A reader and a number. -/
def RefSI (w : World) (r : Rr × Nat) (e : Ending) (w' : World) : Prop := e = .returned (.tuple #[.agg #[.string ⟨r.1.b.toArray⟩, .int .i64 r.1.e], .int .i64 (r.2 : Int)]) ∧ Below w.heap.size w w'

theorem uint_zero' {r : Rr} (h : r.uint.1.e ≠ 0) : r.uint.2 = 0 := by
  by_cases h0 : r.e = 0
  · rw [Rr.eta h0] at h ⊢
    rcases Rr.uint_cases r.b with ⟨x, l, _, _, hu⟩ | ⟨_, h2⟩
    · rw [hu] at h; exact absurd rfl h
    · exact h2
  · rw [Rr.uint_err h0]

set_option maxHeartbeats 2000000 in
theorem rsmall_any (w : World) (r : Rr) (least below : Nat) (x y : Int) (hx : x = (least : Int)) (hy : y = (below : Int)) (hb63 : below ≤ 1000000) (hl : r.b.length ≤ 100000000) :
    Calls Try.prog 29 #[.agg #[.string ⟨r.b.toArray⟩, .int .i64 r.e], .int .u64 x, .int .u64 y] w (RefSI w (r.small least below)) := by
  subst hx; subst hy
  have ctr := fun w => refRead_any w r hl
  unfold refR RefRU at ctr
  have hz := fun h => uint_zero' (r := r) h
  obtain ⟨S, hS⟩ : ∃ S, S = r.small least below := ⟨_, rfl⟩
  rw [← hS]
  unfold Rr.small at hS
  generalize r.uint = U at *
  obtain ⟨⟨ub, ue⟩, un⟩ := U
  simp only at hS hz ctr
  have HSM := Go.Lib.hid hS; have HZ := Go.Lib.hid hz; have CTR := Go.Lib.hid ctr
  clear hS hz ctr
  have rA := NB.rw_new w [.string ⟨r.b.toArray⟩, .int .i64 r.e] 69 rfl
  have obA := oneB w (.cells #[.string ⟨r.b.toArray⟩, .int .i64 r.e] 69)
  have rB := NB.rw_new (w.alloc (.cells #[.string ⟨r.b.toArray⟩, .int .i64 r.e] 69)) [.string ⟨#[]⟩, .int .i64 0] 69 rfl
  have obB := oneB (w.alloc (.cells #[.string ⟨r.b.toArray⟩, .int .i64 r.e] 69)) (.cells #[.string ⟨#[]⟩, .int .i64 0] 69)
  simp only [List.toArray] at rA rB
  have rA2 := rA.below obB
  have B2 := NB.bel obA obB obA.size
  have hsz : (w.alloc (.cells #[.string ⟨r.b.toArray⟩, .int .i64 r.e] 69)).heap.size = w.heap.size + 1 := by simp
  rw [hsz] at rB
  clear rA obA obB hsz
  go_enter Try.func29, Try.ntmps29
  go_wp2_with fail
  refine (CTR.out _).mono ?_
  rintro e w1 ⟨rfl, hb1⟩
  have rA3 := rA2.below hb1
  have rB3 := rB.below hb1
  have B3 := NB.bel B2 hb1 B2.size
  clear rA2 rB B2 hb1 CTR
  obtain ⟨c0, c1, f0, f1⟩ := NB.rw2 rA3
  obtain ⟨d0, d1, g0, g1⟩ := NB.rw2 rB3
  have hltA := rA3.lt
  have hltB := rB3.lt
  have rS := (rA3.set 0 (.string ⟨ub.toArray⟩)).set 1 (.int .i64 ue)
  have rS2 := rS.set 1 (.int .i64 11)
  simp only [List.set] at rS rS2
  clear rA3 rB3
  by_cases hue : ue = 0
  case neg =>
    have hne : (ue == 0) = false := by simpa using hue
    have hne2 : (ue != 0) = true := by simpa using hue
    have hun : un = 0 := HZ.out hue
    subst hun
    have hsm : S = (⟨ub, ue⟩, 0) := by rw [HSM.out, if_neg (fun h => hue h.1)]
    have HS := Go.Lib.hid hsm
    clear hue hsm HSM HZ rS rS2
    go_wp2_with fail
    refine bodyPost_ret (v := .tuple #[.agg #[.string ⟨ub.toArray⟩, .int .i64 ue], .int .i64 0]) (by simp [results, Try.results29, go_sem, c0, c1, d0, d1, hltA, hltB]) rfl ?_
    exact ⟨by rw [HS.out]; rfl, by repeat (first | exact B3 | refine Below.setCell ?_ (by simp) _)⟩
  subst hue
  by_cases hin : un < least ∨ below ≤ un
  case neg =>
    have h1 : ¬ (un : Int) < (least : Int) := by omega
    have h2 : ¬ (below : Int) ≤ (un : Int) := by omega
    have h3 : (un : Int) ≤ 1000000 := by omega
    have hsm : S = (⟨ub, 0⟩, un) := by rw [HSM.out, if_neg (fun h => hin h.2)]
    have HS := Go.Lib.hid hsm
    clear hin hsm HSM HZ rS rS2
    go_wp2_with fail
    refine bodyPost_ret (v := .tuple #[.agg #[.string ⟨ub.toArray⟩, .int .i64 0], .int .i64 (un : Int)]) (by simp [results, Try.results29, go_sem, c0, c1, d0, d1, hltA, hltB]) rfl ?_
    exact ⟨by rw [HS.out], by repeat (first | exact B3 | refine Below.setCell ?_ (by simp) _)⟩
  have hsm : S = (⟨ub, 11⟩, 0) := by rw [HSM.out, if_pos ⟨rfl, hin⟩]
  have HS := Go.Lib.hid hsm
  clear hsm HSM HZ
  obtain ⟨e0, e1, i0, i1⟩ := NB.rw2 rS
  obtain ⟨j0, j1, k0, k1⟩ := NB.rw2 rS2
  have hcs : ((un : Int) < (least : Int)) ∨ (¬ (un : Int) < (least : Int) ∧ (below : Int) ≤ (un : Int)) := by omega
  clear hin
  rcases hcs with h1 | ⟨h1, h2⟩
  · go_wp2_with fail
    refine bodyPost_ret (v := .tuple #[.agg #[.string ⟨ub.toArray⟩, .int .i64 11], .int .i64 0]) (by simp [results, Try.results29, go_sem, c0, c1, d0, d1, hltA, hltB]) rfl ?_
    exact ⟨by rw [HS.out]; rfl, by repeat (first | exact B3 | refine Below.setCell ?_ (by simp) _)⟩
  · go_wp2_with fail
    refine bodyPost_ret (v := .tuple #[.agg #[.string ⟨ub.toArray⟩, .int .i64 11], .int .i64 0]) (by simp [results, Try.results29, go_sem, c0, c1, d0, d1, hltA, hltB]) rfl ?_
    exact ⟨by rw [HS.out]; rfl, by repeat (first | exact B3 | refine Below.setCell ?_ (by simp) _)⟩
end Go.Proofs.Ytnkmlopgfgdajaa
