/- A segment's Sync, walked. -/
import Derived.Test.YtmgkaoenjnnlmaaSgf
namespace Go.Proofs.Ytmgkaoenjnnlmaa
open Go.RowKit
open Go.NB (Rd Dk Kp Stp Off Dis val oneB dB Rw MapI KeyI I64)

theorem Stp.addL {F F' : Nat → Prop} {a b : World} (h : Stp F F' a b) (G : Nat → Prop) : Stp (fun k => G k ∨ F k) (fun k => G k ∨ F' k) a b :=
  ⟨h.kp.imp (fun _ hk => .inr hk), fun k hk => hk.elim (fun h1 => .inl (.inl h1)) (fun h1 => (h.sub k h1).elim (fun h2 => .inl (.inr h2)) .inr)⟩
theorem stp_left {F F' : Nat → Prop} {a b : World} (h : Stp F F' a b) (G : Nat → Prop) : Stp (fun k => F k ∨ G k) (fun k => F' k ∨ G k) a b := h.add G

/-- What a call of a segment and its disk leaves. -/
def DidS (w : World) (base q based p : Nat) (F G : Nat → Prop) (S' : Sg) (D' : Dk) (w' : World) : Prop :=
  ∃ F' G', HasSg w' base q p F' S' ∧ HasD w' based p G' D' ∧ Dis F' G' ∧ Stp (fun k => F k ∨ G k) (fun k => F' k ∨ G' k) w w'

set_option maxHeartbeats 400000 in
theorem ssync_nil (w : World) : Calls Try.prog 13 #[.pointer none] w fun e w' => e = .returned (.int .i64 1) ∧ w' = w := by
  go_enter Try.func13, Try.ntmps13
  go_wp2
  go_ret
  exact ⟨rfl, rfl⟩
set_option maxHeartbeats 1000000 in
theorem ssync_any (w : World) (base q based p : Nat) (F G : Nat → Prop) (S : Sg) (D : Dk) (h : HasSg w base q p F S) (hD : HasD w based p G D) (hFG : Dis F G) (hwn : D.waits.length ≤ 1000000) :
    Calls Try.prog 13 #[.pointer (some ⟨q, 0, none⟩)] w fun e w' => e = .returned (.int .i64 (synM D S).2.2) ∧ DidS w base q based p F G (synM D S).2.1 (synM D S).1 w' := by
  obtain ⟨v, its, h, rfl⟩ := h
  obtain ⟨a, c, rfl, _⟩ := h.slice
  have c8 := h.cellv 8 _ rfl
  have c0 := h.cellv 0 _ rfl
  by_cases he : S.e = 0
  case neg =>
    have hq : synM D S = (D, S, S.e) := by unfold synM; rw [if_pos he]
    have he' : (S.e == 0) = false := by simpa using he
    rw [hq]
    go_enter Try.func13, Try.ntmps13
    go_wp2
    go_ret
    exact ⟨rfl, _, _, ⟨_, its, h, rfl⟩, hD, hFG, Stp.refl _ _⟩
  case pos =>
    rw [he] at c8
    obtain ⟨D', x, hx⟩ : ∃ D' x, D.sync = (D', x) := ⟨_, _, rfl⟩
    have ctd := dsync_any w based p G D hD hwn
    rw [hx] at ctd
    have hq : synM D S = if x ≠ 0 then (D', { S with e := x }, x) else (D', { S with sure := S.l.length }, 0) := by
      unfold synM; rw [if_neg (by rw [he]; simp), hx]
    have hlow : ∀ k, footS q (.slice a S.l.length c) its k → k < w.heap.size := fun k hk => (h.foot k hk).2
    by_cases hx0 : x = 0
    case neg =>
      have hxb : (x == 0) = false := by simpa using hx0
      rw [hq, if_pos hx0]
      clear hq hx
      go_enter Try.func13, Try.ntmps13
      go_wp2_with fail
      refine ctd.mono ?_
      rintro e w1 ⟨rfl, G1, hD1, hS1⟩
      have h1 := h.keep hS1.kp hFG
      have hFG1 := hFG.step hlow hS1
      have d8 := h1.cellv 8 _ rfl
      have f8 := h1.free 8
      have hstp : Stp (fun k => footS q (.slice a S.l.length c) its k ∨ G k) (fun k => footS q (.slice a S.l.length c) its k ∨ G1 k) w w1 := Stp.addL hS1 _
      clear h hD ctd c8 c0
      simp only at hD1 ⊢
      obtain ⟨h2, hk2⟩ := h1.field 8 (.int .i64 x) { S with e := x } rfl rfl h1.frm h1.n h1.used h1.len h1.epoch h1.sure h1.gone
      have n8 := h2.cellv 8 _ rfl
      go_wp2_with fail
      go_ret
      exact ⟨rfl, _, _, ⟨_, its, h2, rfl⟩, hD1.keep hk2 (fun i hi e => by subst e; exact hFG1 _ (.inl rfl) hi), hFG1, hstp.trans (Stp.of_kp (hk2.imp fun k hk => .inl (.inl hk)))⟩
    case pos =>
      subst hx0
      rw [hq, if_neg (by simp)]
      clear hq hx
      go_enter Try.func13, Try.ntmps13
      go_wp2_with fail
      refine ctd.mono ?_
      rintro e w1 ⟨rfl, G1, hD1, hS1⟩
      have h1 := h.keep hS1.kp hFG
      have hFG1 := hFG.step hlow hS1
      have d8 := h1.cellv 8 _ rfl
      have f8 := h1.free 8
      have hstp : Stp (fun k => footS q (.slice a S.l.length c) its k ∨ G k) (fun k => footS q (.slice a S.l.length c) its k ∨ G1 k) w w1 := Stp.addL hS1 _
      clear h hD ctd c8 c0
      simp only at hD1 ⊢
      obtain ⟨h2, hk2⟩ := h1.field 8 (.int .i64 0) { S with e := 0 } rfl rfl h1.frm h1.n h1.used h1.len h1.epoch h1.sure h1.gone
      have n8 := h2.cellv 8 _ rfl
      have n4 := h2.cellv 4 _ rfl
      have n6 := h2.cellv 6 _ rfl
      have f6 := h2.free 6
      obtain ⟨h3, hk3⟩ := h2.field 6 (.int .i64 (S.l.length : Int)) { S with e := 0, sure := S.l.length } rfl rfl h1.frm h1.n h1.used h1.len h1.epoch (Nat.le_refl _) (Nat.le_trans h1.gone h1.sure)
      have m8 := h3.cellv 8 _ rfl
      go_wp2_with fail
      go_ret
      have hSS : ({ S with e := 0, sure := S.l.length } : Sg) = { S with sure := S.l.length } := by rw [← he]
      have hk : Kp (fun k => k = q) w1 _ := hk2.trans hk3 (fun i hi => .inl hi)
      first | (exact ⟨rfl, _, _, ⟨_, its, h3, rfl⟩, hD1.keep hk (fun i hi e => by subst e; exact hFG1 _ (.inl rfl) hi), hFG1, hstp.trans (Stp.of_kp (hk.imp fun k hk => .inl (.inl hk)))⟩) | (rw [hSS] at h3; exact ⟨rfl, _, _, ⟨_, its, h3, rfl⟩, hD1.keep hk (fun i hi e => by subst e; exact hFG1 _ (.inl rfl) hi), hFG1, hstp.trans (Stp.of_kp (hk.imp fun k hk => .inl (.inl hk)))⟩)
end Go.Proofs.Ytmgkaoenjnnlmaa
