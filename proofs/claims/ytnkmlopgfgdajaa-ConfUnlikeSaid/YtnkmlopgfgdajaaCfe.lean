/- The reader of conf: err, small, number. -/
import Derived.Test.YtnkmlopgfgdajaaCfm
import Derived.Test.YtnkmlopgfgdajaaNumc
import Derived.Test.YtnkmlopgfgdajaaRw
namespace Go.Proofs.Ytnkmlopgfgdajaa
open Go.RowKit
open Go.NB (Rd Kp Stp Dis Rr Rw oneB dB)

/-- A conf.reader at block g over a nums.Reader: what it reads as. -/
def HasC (w : World) (base p g : Nat) (FC : Nat → Prop) (m : Rr) : Prop :=
  ∃ (F : Nat → Prop) (rd : Rr) (ex : Int), HasR w base p F rd ∧ Rw w g [.pointer (some ⟨p, 0, none⟩), .int .i64 ex] 59 ∧ ¬ F g ∧ base ≤ g ∧ (ex ≠ 0 → rd.e = 0) ∧ (m = ⟨rd.b, if ex ≠ 0 then ex else rd.e⟩) ∧ FC = fun k => k = g ∨ F k

section
variable {w w' : World} {base p g : Nat} {FC : Nat → Prop} {m : Rr}
theorem HasC.foot (h : HasC w base p g FC m) (k : Nat) (hk : FC k) : base ≤ k ∧ k < w.heap.size := by
  obtain ⟨F, rd, ex, hR, row, _, hb, _, _, rfl⟩ := h
  rcases hk with rfl | hk
  · exact ⟨hb, row.lt⟩
  · exact hR.foot k hk
theorem HasC.base_le (h : HasC w base p g FC m) : base ≤ w.heap.size := by
  obtain ⟨F, rd, ex, hR, row, _, hb, _, _, rfl⟩ := h
  exact Nat.le_of_lt (Nat.lt_of_le_of_lt hb row.lt)
theorem HasC.keep {G : Nat → Prop} (h : HasC w base p g FC m) (hk : Kp G w w') (hG : Dis FC G) : HasC w' base p g FC m := by
  obtain ⟨F, rd, ex, hR, row, nf, hb, hx, rfl, rfl⟩ := h
  exact ⟨F, rd, ex, hR.keep hk (fun k hf => hG k (.inr hf)), row.keep hk (hG g (.inl rfl)), nf, hb, hx, rfl, rfl⟩
theorem HasC.below (h : HasC w base p g FC m) (hb : Below w.heap.size w w') : HasC w' base p g FC m :=
  h.keep (G := fun _ => False) (Kp.of_below hb) (fun _ _ hf => hf)
theorem HasC.low {FC' : Nat → Prop} (h : HasC w base p g FC m) (hs : Stp FC FC' w w') : Below base w w' := hs.low h.base_le (fun k hk => (h.foot k hk).1)

set_option maxHeartbeats 400000 in
theorem cerr_any (h : HasC w base p g FC m) : Calls Try.prog 26 #[.pointer (some ⟨g, 0, none⟩)] w fun e w' => e = .returned (.int .i64 m.e) ∧ w' = w := by
  obtain ⟨F, rd, ex, hR, row, nf, hb, hx, rfl, rfl⟩ := h
  obtain ⟨c0, c1, _⟩ := NB.rw2 row
  by_cases hex : ex = 0
  · subst hex
    clear hx row
    go_enter Try.func26, Try.ntmps26
    go_wp2_with (go_at_call 49; refine (rerr_any _ _ _ _ _ hR).mono ?_; rintro e w' ⟨rfl, e2⟩; subst w')
    go_ret
    exact ⟨by simp, rfl⟩
  · have hne : (ex != 0) = true := by simpa using hex
    have HEX := Go.Lib.hid hex
    clear hx row hex
    go_enter Try.func26, Try.ntmps26
    go_wp2_with fail
    go_ret
    exact ⟨by simp [HEX.out], rfl⟩

/-- What a call of the reader that tells a number leaves. -/
def ReadC (w : World) (base p g : Nat) (FC : Nat → Prop) (k : IntKind) (r : Rr × Nat) (e : Ending) (w' : World) : Prop :=
  e = .returned (.int k (r.2 : Int)) ∧ ∃ FC', HasC w' base p g FC' r.1 ∧ Stp FC FC' w w'

/-- A step of the inner reader is one of the outer. -/
theorem stp_c {F F' : Nat → Prop} (row : Rw w g [.pointer (some ⟨p, 0, none⟩), .int .i64 0] 59) (nf : ¬ F g) (hS : Stp F F' w w') :
    Stp (fun k => k = g ∨ F k) (fun k => k = g ∨ F' k) w w' ∧ ¬ F' g ∧ Rw w' g [.pointer (some ⟨p, 0, none⟩), .int .i64 0] 59 := by
  refine ⟨⟨hS.kp.imp (fun k hk => .inr hk), fun k hk => ?_⟩, fun hf => ?_, row.keep hS.kp nf⟩
  · rcases hk with rfl | hk
    · exact .inl (.inl rfl)
    · rcases hS.sub k hk with h | h
      · exact .inl (.inr h)
      · exact .inr h
  · rcases hS.sub g hf with h | h
    · exact nf h
    · have := row.lt; omega

theorem uint_zero {r : Rr} (h : r.uint.1.e ≠ 0) : r.uint.2 = 0 := by
  by_cases h0 : r.e = 0
  · rw [Rr.eta h0] at h ⊢
    rcases Rr.uint_cases r.b with ⟨x, l, _, _, hu⟩ | ⟨_, h2⟩
    · rw [hu] at h; exact absurd rfl h
    · exact h2
  · rw [Rr.uint_err h0]

set_option maxHeartbeats 400000 in
theorem cnumber_any (h : HasC w base p g FC m) : Calls Try.prog 23 #[.pointer (some ⟨g, 0, none⟩)] w (ReadC w base p g FC .u64 m.uint) := by
  have ce := cerr_any h
  by_cases hm : m.e = 0
  · rw [hm] at ce
    have CE := Go.Lib.hid ce
    obtain ⟨F, rd, ex, hR, row, nf, hb, hx, rfl, rfl⟩ := h
    have hex : ex = 0 := by
      by_cases h0 : ex = 0
      · exact h0
      · rw [if_pos h0] at hm; exact absurd hm h0
    subst hex
    have hmm : (⟨rd.b, if (0 : Int) ≠ 0 then 0 else rd.e⟩ : Rr) = rd := by simp
    rw [hmm]
    obtain ⟨c0, c1, _⟩ := NB.rw2 row
    clear ce hm hx hmm
    go_enter Try.func23, Try.ntmps23
    go_wp2_with fail
    refine CE.out.mono ?_
    rintro e w' ⟨rfl, e2⟩
    subst w'
    go_wp2_with fail
    refine (ruint_any _ _ _ _ _ hR).mono ?_
    rintro e w2 ⟨rfl, F2, hR2, hS2⟩
    obtain ⟨hS, nf2, row2⟩ := stp_c row nf hS2
    clear c0 c1 hS2 nf hR CE row
    go_wp2_with fail
    go_ret
    exact ⟨rfl, _, ⟨F2, rd.uint.1, 0, hR2, row2, nf2, hb, fun h => absurd rfl h, by simp, rfl⟩, hS⟩
  · have hu := Rr.uint_err hm
    have hne : (m.e != 0) = true := by simpa using hm
    have HU := Go.Lib.hid hu
    clear hm hu
    go_enter Try.func23, Try.ntmps23
    go_wp2_with fail
    refine ce.mono ?_
    rintro e w' ⟨rfl, e2⟩
    subst w'
    clear ce
    go_wp2_with fail
    go_ret
    exact ⟨by rw [HU.out]; rfl, FC, by rw [HU.out]; exact h, Stp.refl _ _⟩

set_option maxHeartbeats 1000000 in
theorem csmall_any (least below : Nat) (x y : Int) (hx : x = (least : Int)) (hy : y = (below : Int)) (hb63 : below ≤ 1000000) (h : HasC w base p g FC m) :
    Calls Try.prog 24 #[.pointer (some ⟨g, 0, none⟩), .int .u64 x, .int .u64 y] w (ReadC w base p g FC .i64 (m.small least below)) := by
  subst hx; subst hy
  have ce := cerr_any h
  by_cases hm : m.e = 0
  case neg =>
    have hu := NB.small_err hm least below
    have hne : (m.e != 0) = true := by simpa using hm
    have HU := Go.Lib.hid hu
    clear hm hu
    go_enter Try.func24, Try.ntmps24
    go_wp2_with fail
    refine ce.mono ?_
    rintro e w' ⟨rfl, e2⟩
    subst w'
    clear ce
    go_wp2_with fail
    go_ret
    exact ⟨by rw [HU.out]; rfl, FC, by rw [HU.out]; exact h, Stp.refl _ _⟩
  rw [hm] at ce
  have CE := Go.Lib.hid ce
  obtain ⟨F, rd, ex, hR, row, nf, hb, hx, rfl, rfl⟩ := h
  have hex : ex = 0 := by
    by_cases h0 : ex = 0
    · exact h0
    · rw [if_pos h0] at hm; exact absurd hm h0
  subst hex
  have hmm : (⟨rd.b, if (0 : Int) ≠ 0 then 0 else rd.e⟩ : Rr) = rd := by simp
  rw [hmm]
  obtain ⟨c0, c1, _⟩ := NB.rw2 row
  have hu := ruint_any w base p F rd hR
  have hlt := Rr.uint_lt rd
  have hz := fun h => uint_zero (r := rd) h
  obtain ⟨S, hS⟩ : ∃ S, S = rd.small least below := ⟨_, rfl⟩
  rw [← hS]
  unfold Rr.small at hS
  generalize rd.uint = U at *
  have HSM := Go.Lib.hid hS; have HZ := Go.Lib.hid hz; have HU := Go.Lib.hid hu
  clear ce hm hx hmm hS hz hu
  obtain ⟨⟨ub, ue⟩, un⟩ := U
  simp only at hlt
  go_enter Try.func24, Try.ntmps24
  go_wp2_with fail
  refine CE.out.mono ?_
  rintro e w' ⟨rfl, e2⟩
  subst w'
  go_wp2_with fail
  refine HU.out.mono ?_
  rintro e w2 ⟨rfl, F2, hR2, hS2⟩
  simp only
  obtain ⟨hSt, nf2, row2⟩ := stp_c row nf hS2
  clear c0 c1 hS2 nf hR CE row HU
  have hC2 : HasC w2 base p g (fun k => k = g ∨ F2 k) ⟨ub, ue⟩ := ⟨F2, ⟨ub, ue⟩, 0, hR2, row2, nf2, hb, fun h => absurd rfl h, by simp, rfl⟩
  have ce2 := cerr_any hC2
  simp only at ce2
  obtain ⟨c0, c1, f0, f1⟩ := NB.rw2 row2
  have cr := rerr_any w2 base p F2 _ hR2
  by_cases hue : ue = 0
  case neg =>
    have hne : (ue == 0) = false := by simpa using hue
    have hne2 : (ue != 0) = true := by simpa using hue
    have hun : un = 0 := HZ.out hue
    subst hun
    have hsm : S = (⟨ub, ue⟩, 0) := by rw [HSM.out, if_neg (fun h => hue h.1)]
    have HS := Go.Lib.hid hsm
    clear hue hsm HSM HZ
    go_wp2_with (first
      | (go_at_call 49; refine cr.mono ?_; rintro e w' ⟨rfl, e2⟩; subst w')
      | (go_at_call 26; refine ce2.mono ?_; rintro e w' ⟨rfl, e2⟩; subst w'))
    go_ret
    exact ⟨by rw [HS.out]; rfl, _, by rw [HS.out]; exact hC2, hSt⟩
  subst hue
  by_cases hin : un < least ∨ below ≤ un
  case neg =>
    have h1 : ¬ (un : Int) < (least : Int) := by omega
    have h2 : ¬ (below : Int) ≤ (un : Int) := by omega
    have h3 : (un : Int) ≤ 1000000 := by omega
    have hsm : S = (⟨ub, 0⟩, un) := by rw [HSM.out, if_neg (fun h => hin h.2)]
    have HS := Go.Lib.hid hsm
    clear hin hsm HSM HZ
    go_wp2_with (first
      | (go_at_call 49; refine cr.mono ?_; rintro e w' ⟨rfl, e2⟩; subst w')
      | (go_at_call 26; refine ce2.mono ?_; rintro e w' ⟨rfl, e2⟩; subst w'))
    go_ret
    exact ⟨by rw [HS.out]; rfl, _, by rw [HS.out]; exact hC2, hSt⟩
  have hsm : S = (⟨ub, 11⟩, 0) := by rw [HSM.out, if_pos ⟨rfl, hin⟩]
  have HS := Go.Lib.hid hsm
  have row3 := row2.set 1 (.int .i64 11)
  have hR3 := hR2.keep (NB.Kp.setCell (NB.Kp.refl (fun k => k = g) w2) (x := ⟨g, 1, none⟩) (.inl rfl) (.int .i64 11)) (fun k hf hk => nf2 (by subst hk; exact hf))
  have hC3 : HasC (w2.setCell ⟨g, 1, none⟩ (.int .i64 11)) base p g (fun k => k = g ∨ F2 k) ⟨ub, 11⟩ := ⟨F2, ⟨ub, 0⟩, 11, hR3, row3, nf2, hb, fun _ => rfl, by simp, rfl⟩
  have ce3 := cerr_any hC3
  simp only at ce3
  have hSt3 : Stp (fun k => k = g ∨ F k) (fun k => k = g ∨ F2 k) w (w2.setCell ⟨g, 1, none⟩ (.int .i64 11)) := ⟨hSt.kp.setCell (.inl (.inl rfl)) _, fun k hk => hSt.sub k hk⟩
  have HC3 := Go.Lib.hid hC3; have HS3 := Go.Lib.hid hSt3
  clear hsm HSM HZ ce2 hC2 hSt row3 hR3 hC3 hSt3 row2 hR2
  have hcs : ((un : Int) < (least : Int)) ∨ (¬ (un : Int) < (least : Int) ∧ (below : Int) ≤ (un : Int)) := by omega
  clear hin
  rcases hcs with h1 | ⟨h1, h2⟩
  · go_wp2_with (first
      | (go_at_call 49; refine cr.mono ?_; rintro e w' ⟨rfl, e2⟩; subst w')
      | (go_at_call 26; refine ce3.mono ?_; rintro e w' ⟨rfl, e2⟩; subst w'))
    go_ret
    exact ⟨by rw [HS.out]; rfl, _, by rw [HS.out]; exact HC3.out, HS3.out⟩
  · go_wp2_with (first
      | (go_at_call 49; refine cr.mono ?_; rintro e w' ⟨rfl, e2⟩; subst w')
      | (go_at_call 26; refine ce3.mono ?_; rintro e w' ⟨rfl, e2⟩; subst w'))
    go_ret
    exact ⟨by rw [HS.out]; rfl, _, by rw [HS.out]; exact HC3.out, HS3.out⟩
end
end Go.Proofs.Ytnkmlopgfgdajaa
