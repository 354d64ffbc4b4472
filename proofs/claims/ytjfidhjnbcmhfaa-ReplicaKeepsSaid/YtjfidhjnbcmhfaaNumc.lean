/- The reader's Uint and Bytes, walked. -/
import Derived.Test.YtjfidhjnbcmhfaaNumb
namespace Go.Proofs.Ytjfidhjnbcmhfaa
open Go.RowKit
open Go.NB (Rd Kp Stp Off Dis Rr footR val)

/-- A number that is read. -/
def ReadU (w : World) (base p : Nat) (F : Nat → Prop) (r : Rr × Nat) (e : Ending) (w' : World) : Prop :=
  e = .returned (.int .u64 (r.2 : Int)) ∧ ∃ F', HasR w' base p F' r.1 ∧ Stp F F' w w'

set_option maxHeartbeats 400000 in
theorem ruint_nil (w : World) : Calls Try.prog 47 #[.pointer none] w fun e w' => e = .returned (.int .u64 0) ∧ w' = w := by
  go_enter Try.func47, Try.ntmps47
  go_wp2
  go_ret
  exact ⟨rfl, rfl⟩

theorem take1 {r : Rr} {h : UInt8} {l : List UInt8} (e : (r.take 1).2 = h :: l) : l = [] := by
  have := NB.Rr.take_len r 1
  rw [e] at this
  simp at this
  exact this

theorem val_take (l : List UInt8) (k : Nat) (h : k < l.length) : val (l.take (k + 1)) = val (l.take k) * 256 + (l.getD k 0).toNat := by
  rw [NB.take_getD l k h (d := 0), NB.val_snoc]

/-- The next step of a number. -/
theorem step_or (x : Nat) (c : Nat) (hx : x < 256 ^ 7) (hc : c < 256) : bits .or .u64 (IntKind.u64.wrap ((x : Int) * 256)) (IntKind.u64.wrap (c : Int)) = ((x * 256 + c : Nat) : Int) := by
  have hx' : x < 72057594037927936 := by simpa using hx
  have w1 : IntKind.u64.wrap ((x : Int) * 256) = (x : Int) * 256 := by rw [IntKind.wrap_u64]; omega
  have w2 : IntKind.u64.wrap (c : Int) = (c : Int) := by rw [IntKind.wrap_u64]; omega
  rw [w1, w2, bits_join .u64 64 (by decide) (fun n h0 h1 => by rw [IntKind.wrap_u64]; omega) 8 _ _ (by omega) (by omega) (by omega) (by omega) (by omega) (by omega)]
  omega

set_option maxHeartbeats 1000000 in
theorem ruint_any (w : World) (base p : Nat) (F : Nat → Prop) (r : Rr) (h : HasR w base p F r) :
    Calls Try.prog 47 #[.pointer (some ⟨p, 0, none⟩)] w (ReadU w base p F r.uint) := by
  cases ht : (r.take 1).2 with
  | nil =>
    have hq : r.uint = ((r.take 1).1, 0) := by simp only [Rr.uint, ht]
    rw [hq]
    go_enter Try.func47, Try.ntmps47
    go_wp2_with (first
      | (go_at_call 62; refine (rtake_any _ _ _ _ _ 1 (by omega) h).mono ?_; rintro e w1 ⟨a1, c1, F1, rfl, hr1, hR1, hS1⟩; rw [ht] at hr1; rw [show (r.take 1).2.length = 0 by rw [ht]; rfl]))
    go_ret
    exact ⟨rfl, F1, hR1, hS1⟩
  | cons y l =>
    obtain rfl := take1 ht
    by_cases h8 : 8 < y.toNat
    · have hq : r.uint = ((r.take 1).1.fail 11, 0) := by simp only [Rr.uint, ht]; rw [if_pos h8]
      rw [hq]
      have h8' : (8 : Int) < (y.toNat : Int) := by omega
      go_enter Try.func47, Try.ntmps47
      go_wp2_with (first
        | (go_at_call 62; refine (rtake_any _ _ _ _ _ 1 (by omega) h).mono ?_; rintro e w1 ⟨a1, c1, F1, rfl, hr1, ⟨a2, n2, c2, hR1, rfl⟩, hS1⟩; rw [ht] at hr1; rw [show (r.take 1).2.length = 1 by rw [ht]; rfl]; obtain ⟨b3, o3, rfl, hc3⟩ := NB.RdB.at hr1 (by simp); have q3 := hc3 0 (by simp); rw [Nat.add_zero, List.getD_cons_zero] at q3; clear hc3)
        | (go_at_call 63; refine (rfail_any _ _ _ _ _ _ _ _ hR1).mono ?_; rintro e w4 ⟨rfl, hR4, hS4⟩))
      go_ret
      exact ⟨rfl, _, ⟨_, _, _, hR4, rfl⟩, hS1.trans hS4⟩
    · have hq : r.uint = (if ((r.take 1).1.take y.toNat).2.head? = some 0 then (((r.take 1).1.take y.toNat).1.fail 11, 0) else (((r.take 1).1.take y.toNat).1, val ((r.take 1).1.take y.toNat).2)) := by simp only [Rr.uint, ht]; rw [if_neg h8]
      have HQ := Go.Lib.hid hq; clear hq
      have hsl := NB.Rr.take_len (r.take 1).1 y.toNat
      have h8' : ¬ (8 : Int) < (y.toNat : Int) := by omega
      go_enter Try.func47, Try.ntmps47
      go_wp2_with fail
      refine (rtake_any _ _ _ _ _ 1 (by omega) h).mono ?_
      rintro e w1 ⟨a1, c1, F1, rfl, hr1, hR1, hS1⟩
      rw [ht] at hr1
      rw [show (r.take 1).2.length = 1 by rw [ht]; rfl]
      obtain ⟨b3, o3, rfl, hc3⟩ := NB.RdB.at hr1 (by simp)
      have q3 := hc3 0 (by simp)
      rw [Nat.add_zero, List.getD_cons_zero] at q3
      clear hc3
      go_wp2_with fail
      refine (rtake_any _ _ _ _ _ y.toNat (by omega) hR1).mono ?_
      rintro e w2 ⟨a5, c5, F5, rfl, hr5, ⟨a6, n6, c6, hR5, rfl⟩, hS5⟩
      generalize (Rr.take (r.take 1).1 y.toNat) = s at *
      generalize r.uint = R at *
      have hS := hS1.trans hS5
      have hbd := Rd.bound hr5
      clear ht hr1 hR1 hS1 hS5 q3 h
      go_wp2_with fail
      have hvl : ∀ k, k ≤ s.2.length → val (s.2.take k) < 256 ^ k := fun k hk => by
        have := NB.val_lt (s.2.take k)
        rwa [List.length_take, Nat.min_eq_left hk] at this
      go_loop [4, 27] (fun x i => ∃ k : Nat, k ≤ s.2.length ∧ (0 < k → s.2.head? ≠ some 0) ∧ x = .int .u64 (val (s.2.take k) : Int) ∧ i = .int .i64 k) (fun _ i => s.2.length - (intOf i).toNat)
      case atStart => exact ⟨0, by omega, by omega, rfl, rfl⟩
      case round =>
        obtain ⟨k, hk, hhd, rfl, rfl⟩ := hrel
        have hv := hvl k hk
        have HHD := Go.Lib.hid hhd; have HVL := Go.Lib.hid hvl; clear hhd hvl
        by_cases hlt : k < s.2.length
        · obtain ⟨b7, o7, rfl, hc7⟩ := NB.RdB.at hr5 (Nat.lt_of_le_of_lt (Nat.zero_le k) hlt)
          have q7 := hc7 k hlt
          have hvs := val_take s.2 k hlt
          have hX7 : val (s.2.take k) < 256 ^ 7 := Nat.lt_of_lt_of_le hv (Nat.pow_le_pow_right (by omega) (by omega))
          clear hc7 hv
          have hh0 : s.2.head? = some (s.2.getD 0 0) := by cases hs : s.2 with
            | nil => rw [hs] at hlt; simp at hlt
            | cons a l => simp
          generalize hz : s.2.getD k 0 = z at *
          generalize hX : val (s.2.take k) = X at *
          have hor := step_or X z.toNat hX7 z.toNat_lt
          have HZ := Go.Lib.hid hz; have HX := Go.Lib.hid hX; have HVS := Go.Lib.hid hvs; have HH := Go.Lib.hid hh0
          clear hz hX hX7 hvs hh0
          have hki : (k : Int) < (s.2.length : Int) := by omega
          by_cases hk0 : k = 0
          · subst hk0
            rw [Nat.add_zero] at q7
            by_cases hz0 : z = 0
            · subst hz0
              have hz1 : (((0 : UInt8).toNat : Int) == 0) = true := rfl
              go_wp2_with (first
                | (go_at_call 63; refine (rfail_any _ _ _ _ _ _ _ _ hR5).mono ?_; rintro e w8 ⟨rfl, hR8, hS8⟩))
              go_ret
              have : R = (s.1.fail 11, 0) := by rw [HQ.out, if_pos (by rw [HH.out, HZ.out])]
              rw [this]
              exact ⟨rfl, _, ⟨_, _, _, hR8, rfl⟩, hS.trans hS8⟩
            · have hz1 : ((z.toNat : Int) == 0) = false := by
                simp only [beq_eq_false_iff_ne]; intro e; exact hz0 (UInt8.toNat_inj.1 (by simpa using (by omega : z.toNat = 0)))
              go_wp2_with fail
              go_round
              case rel => exact ⟨1, by omega, fun _ => by rw [HH.out, HZ.out]; simpa using hz0, by rw [HVS.out]; exact congrArg (Value.int .u64) (by omega), rfl⟩
              case measure => simp [intOf]; omega
          · have hk1 : ((k : Int) == 0) = false := by simp [hk0]
            go_wp2_with fail
            go_round
            case rel => exact ⟨k + 1, by omega, fun _ => HHD.out (by omega), by rw [HVS.out]; exact congrArg (Value.int .u64) (by omega), by go_num⟩
            case measure => simp [intOf]; omega
        · obtain rfl : k = s.2.length := by omega
          rw [List.take_length]
          go_wp2_with fail
          go_ret
          have : R = (s.1, val s.2) := by
            rw [HQ.out, if_neg]
            cases hs : s.2 with
            | nil => simp
            | cons a l => rw [← hs]; exact HHD.out (by rw [hs]; simp)
          rw [this]
          exact ⟨rfl, _, ⟨_, _, _, hR5, rfl⟩, hS⟩

set_option maxHeartbeats 400000 in
theorem rbytes_nil (w : World) (x : Int) : Calls Try.prog 48 #[.pointer none, .int .i64 x] w fun e w' => e = .returned (.slice none 0 0) ∧ w' = w := by
  go_enter Try.func48, Try.ntmps48
  go_wp2_with (first
    | (go_at_call 47; refine (ruint_nil _).mono ?_; rintro e w' ⟨rfl, rfl⟩)
    | (go_at_call 64; refine (rerr_nil _).mono ?_; rintro e w' ⟨rfl, rfl⟩))
  go_ret
  exact ⟨rfl, rfl⟩

theorem uint_left (r : Rr) : r.uint.1.b.length ≤ r.b.length := by
  have ht : ∀ (r : Rr) n, (r.take n).1.b.length ≤ r.b.length := by
    intro r n
    unfold Rr.take
    split
    · simp
    · split <;> simp
  have hf : ∀ (r : Rr) x, (r.fail x).b = r.b := by
    intro r x
    unfold Rr.fail
    split <;> rfl
  simp only [Rr.uint]
  split
  · exact ht r 1
  · split
    · rw [hf]; exact ht r 1
    · split
      · rw [hf]; exact Nat.le_trans (ht _ _) (ht r 1)
      · exact Nat.le_trans (ht _ _) (ht r 1)

set_option maxHeartbeats 1000000 in
theorem rbytes_any (w : World) (base p : Nat) (F : Nat → Prop) (r : Rr) (most : Int) (hm : most ≤ 9223372036854775807) (h : HasR w base p F r) (hb : r.b.length ≤ 100000000000) :
    Calls Try.prog 48 #[.pointer (some ⟨p, 0, none⟩), .int .i64 most] w (ReadR w base p F (r.bytes most)) := by
  have hq : r.bytes most = if r.uint.1.e ≠ 0 then (r.uint.1, []) else if most < 0 ∨ most < (r.uint.2 : Int) then (r.uint.1.fail 13, []) else r.uint.1.raw r.uint.2 := rfl
  have hul := uint_left r
  have hu := ruint_any w base p F r h
  generalize r.uint = u at *
  by_cases he : u.1.e = 0
  · have he' : (u.1.e != 0) = false := by simp [he]
    rw [if_neg (by simp [he])] at hq
    clear he
    by_cases h0 : most < 0
    · rw [if_pos (.inl h0)] at hq
      rw [hq]
      clear hq
      go_enter Try.func48, Try.ntmps48
      go_wp2_with (first
        | (go_at_call 47; refine hu.mono ?_; rintro e w1 ⟨rfl, F1, ⟨a1, n1, c1, hR1, rfl⟩, hS1⟩)
        | (go_at_call 64; refine (rerr_any _ _ _ _ _ ⟨_, _, _, hR1, rfl⟩).mono ?_; rintro e w' ⟨rfl, e2⟩; subst w')
        | (go_at_call 63; refine (rfail_any _ _ _ _ _ _ _ _ hR1).mono ?_; rintro e w2 ⟨rfl, hR2, hS2⟩))
      go_ret
      exact ⟨none, 0, _, rfl, World.ownsRow_nil _ _ _ _, ⟨_, _, _, hR2, rfl⟩, hS1.trans hS2, Rd.nil_mk, (fun k o e => nomatch e)⟩
    · by_cases h1 : most < (u.2 : Int)
      · rw [if_pos (.inr h1)] at hq
        rw [hq]
        clear hq
        go_enter Try.func48, Try.ntmps48
        go_wp2_with (first
          | (go_at_call 47; refine hu.mono ?_; rintro e w1 ⟨rfl, F1, ⟨a1, n1, c1, hR1, rfl⟩, hS1⟩)
          | (go_at_call 64; refine (rerr_any _ _ _ _ _ ⟨_, _, _, hR1, rfl⟩).mono ?_; rintro e w' ⟨rfl, e2⟩; subst w')
          | (go_at_call 63; refine (rfail_any _ _ _ _ _ _ _ _ hR1).mono ?_; rintro e w2 ⟨rfl, hR2, hS2⟩))
        go_ret
        exact ⟨none, 0, _, rfl, World.ownsRow_nil _ _ _ _, ⟨_, _, _, hR2, rfl⟩, hS1.trans hS2, Rd.nil_mk, (fun k o e => nomatch e)⟩
      · rw [if_neg (by omega)] at hq
        have HQ := Go.Lib.hid hq; clear hq
        generalize r.bytes most = R at *
        obtain ⟨m, rfl⟩ := Int.eq_ofNat_of_zero_le (show 0 ≤ most by omega)
        have h2 : (u.2 : Int) ≤ 9223372036854775807 := by omega
        go_enter Try.func48, Try.ntmps48
        go_wp2_with (first
          | (go_at_call 47; refine hu.mono ?_; rintro e w1 ⟨rfl, F1, hR1, hS1⟩)
          | (go_at_call 64; refine (rerr_any _ _ _ _ _ hR1).mono ?_; rintro e w' ⟨rfl, e2⟩; subst w')
          | (go_at_call 65; refine (rraw_any _ _ _ _ _ (u.2 : Int) h2 hR1 (by omega)).mono ?_; rw [← HQ.out]; rintro e w2 ⟨a2, c2, F2, rfl, ho2, hR2, hS2, hf2⟩))
        go_ret
        exact ⟨a2, c2, F2, rfl, NB.own_mono ho2 hS1.size, hR2, hS1.trans hS2, hf2⟩
  · have he' : (u.1.e != 0) = true := by simp [he]
    rw [if_pos he] at hq
    rw [hq]
    clear he hq
    go_enter Try.func48, Try.ntmps48
    go_wp2_with (first
      | (go_at_call 47; refine hu.mono ?_; rintro e w1 ⟨rfl, F1, hR1, hS1⟩)
      | (go_at_call 64; refine (rerr_any _ _ _ _ _ hR1).mono ?_; rintro e w' ⟨rfl, e2⟩; subst w'))
    go_ret
    exact ⟨none, 0, F1, rfl, World.ownsRow_nil _ _ _ _, hR1, hS1, Rd.nil_mk, (fun k o e => nomatch e)⟩
end Go.Proofs.Ytjfidhjnbcmhfaa
