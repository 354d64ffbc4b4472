import Derived.Test.YtfokmbpcpfkopaaT1
namespace Go.Proofs.Ytfokmbpcpfkopaa
open Go.RowKit
open Go.NB.Crc
open Go.NB (Rd)

theorem slT23 : NB.SlT Try.prog 23 5 (.int .u8 0) 1 1 :=
  ⟨Try.underlying23, info_parts (by kernel_rfl), rfl, by omega⟩

set_option maxHeartbeats 400000 in
theorem clone_any (w : World) (a : Option Addr) (n c : Nat) (bs : List UInt8) (h : NB.RdB w a n c bs) (hl : n ≤ 140737488355328) :
    Calls Try.prog 16 #[.slice a n c] w (NB.FreshB 5 w bs) := by
  have hs := NB.RdB.size h
  have heq := fun w => Lib.run_eql_slice_nil (P := Try.prog) w 23 5 a n c 0 0 Try.underlying23
  cases a with
  | none =>
    obtain rfl : c = 0 := h.nil rfl
    obtain rfl : n = 0 := by have := h.le; omega
    obtain rfl : bs = [] := List.eq_nil_of_length_eq_zero hs
    simp only [Option.isNone_none] at heq
    go_enter Try.func16, Try.ntmps16
    go_wp2
    go_ret
    exact NB.freshB_mk (World.ownsRow_nil _ _ _ _) rfl (Below.refl _ _)
  | some x =>
    simp only [Option.isNone_some] at heq
    go_enter Try.func16, Try.ntmps16
    go_wp2_with (at_builtin; with_reducible refine NB.wpList_append_rd rfl (.tmp 5) (.tmp 6) 23 rfl w.heap.size slT23 _ 0 [] rfl ?_ (some x) n c (bs.map NB.u8v) rfl ?_ (NB.u8v_one _) ?_ ?_ ?_ ?_)
    case refine_1 => exact World.ownsRow_lit w #[] 0 (Nat.le_refl _) (Nat.zero_le _) rfl
    case refine_2 => exact Rd.below h ((Below.refl _ _).alloc (Nat.le_refl _) _)
    case refine_3 => omega
    case refine_4 => unfold maxLen; omega
    case refine_5 => simp
    intro v' w' ho hg
    go_wp2
    go_ret
    exact NB.freshB_mk ho rfl (((Below.refl _ _).alloc (Nat.le_refl _) _).grown hg (by simp) (by rintro k hk; cases hk; exact Nat.le_refl _))

theorem u8_ne (x y : UInt8) : (((x.toNat : Int) != (y.toNat : Int))) = !(x == y) := by
  by_cases h : x = y
  · subst h; simp
  · have : x.toNat ≠ y.toNat := fun e => h (UInt8.toNat_inj.1 e)
    have h2 : (x == y) = false := by simpa using h
    rw [h2]; simp; omega

set_option maxHeartbeats 400000 in
theorem equal_any (w : World) (a a2 : Option Addr) (n c n2 c2 : Nat) (bs bs2 : List UInt8) (h : NB.RdB w a n c bs) (h2 : NB.RdB w a2 n2 c2 bs2) :
    Calls Try.prog 18 #[.slice a n c, .slice a2 n2 c2] w fun e w' => e = .returned (.bool (bs == bs2)) ∧ Below w.heap.size w w' := by
  have hs := NB.RdB.size h
  have hs2 := NB.RdB.size h2
  have hb1 := Rd.bound h
  have hb2 := Rd.bound h2
  by_cases hn : n = n2
  · subst hn
    go_enter Try.func18, Try.ntmps18
    go_wp2
    go_loopw [13] (fun i wr => ∃ k : Nat, k ≤ n ∧ i = .int .i64 k ∧ bs.take k = bs2.take k ∧ Below w.heap.size w wr) (fun i _ => n - (intOf i).toNat)
    case atStart => exact ⟨0, by omega, rfl, by simp, Below.refl _ _⟩
    case round =>
      obtain ⟨k, hk, rfl, htk, hbl⟩ := hrel
      have HT := Go.Lib.hid htk; clear htk
      by_cases hkn : k < n
      · obtain ⟨b, o, rfl, hc⟩ := NB.RdB.at (Rd.below h hbl) (by omega)
        obtain ⟨b2, o2, rfl, hc2⟩ := NB.RdB.at (Rd.below h2 hbl) (by omega)
        have c1 := hc k hkn
        have c2' := hc2 k hkn
        clear hc hc2
        have hki : (k : Int) < (n : Int) := by omega
        generalize hx : bs.getD k 0 = x at c1
        generalize hy : bs2.getD k 0 = y at c2'
        have HX := Go.Lib.hid hx; have HY := Go.Lib.hid hy; clear hx hy
        have hne := u8_ne x y
        by_cases hxy : (x == y) = true
        · rw [hxy] at hne
          have HXY := Go.Lib.hid hxy; clear hxy
          go_wp2
          go_quiet (fail)
          go_wp2
          go_roundw
          case rel => exact ⟨k+1, by omega, by go_num, by
            rw [NB.take_getD bs k (by omega), NB.take_getD bs2 k (by omega), HT.out, HX.out, HY.out, (beq_iff_eq.1 HXY.out)], NB.below_drewN hbl _⟩
          case measure => simp [intOf]; omega
        · have hxy' : (x == y) = false := by simpa using hxy
          rw [hxy'] at hne
          have HXY := Go.Lib.hid hxy'; clear hxy hxy'
          go_wp2
          go_quiet (fail)
          go_wp2
          go_ret
          refine ⟨?_, NB.below_drewN hbl _⟩
          have : (bs == bs2) = false := by
            rw [beq_eq_false_iff_ne]
            rintro rfl
            have := beq_eq_false_iff_ne.1 HXY.out
            rw [← HX.out, ← HY.out] at this
            exact this rfl
          rw [this]; rfl
      · obtain rfl : k = n := by omega
        go_wp2
        go_ret
        refine ⟨?_, hbl⟩
        have := HT.out
        rw [List.take_of_length_le (by omega), List.take_of_length_le (by omega)] at this
        rw [this]; simp
  · have hne : (bs == bs2) = false := by
      rw [beq_eq_false_iff_ne]; rintro rfl; omega
    have hni : ((n : Int) != (n2 : Int)) = true := by simp; omega
    go_enter Try.func18, Try.ntmps18
    go_wp2
    go_ret
    exact ⟨by rw [hne]; rfl, Below.refl _ _⟩

def four (x : Nat) : List UInt8 := [UInt8.ofNat (x / 16777216), UInt8.ofNat (x / 65536), UInt8.ofNat (x / 256), UInt8.ofNat x]
def sealedL (bs : List UInt8) : List UInt8 := bs ++ four (sumR [bs])

theorem four_cells (s : Nat) (h : s < 4294967296) :
    [Value.int .u8 ((s : Int) / 16777216), .int .u8 ((s : Int) / 65536 % 256), .int .u8 ((s : Int) / 256 % 256), .int .u8 ((s : Int) % 256)] = (four s).map NB.u8v := by
  have e : ∀ x : Nat, ((UInt8.ofNat x).toNat : Int) = (x : Int) % 256 := fun x => by simp
  simp only [four, List.map_cons, List.map_nil, NB.u8v, e]
  rw [show ((s / 16777216 : Nat) : Int) % 256 = (s : Int) / 16777216 by omega, show ((s / 65536 : Nat) : Int) % 256 = (s : Int) / 65536 % 256 by omega, show ((s / 256 : Nat) : Int) % 256 = (s : Int) / 256 % 256 by omega]

set_option maxHeartbeats 400000 in
theorem sealed_any (w : World) (a : Option Addr) (n c : Nat) (bs : List UInt8) (h : NB.RdB w a n c bs) (hl : n + 4 ≤ 140737488355328) :
    Calls Try.prog 11 #[.slice a n c] w (NB.FreshB 5 w (sealedL bs)) := by
  obtain rfl : n = bs.length := (NB.RdB.size h).symm
  have hbd := Rd.bound h
  have hx := sumR_lt [bs]
  have hfc := four_cells (sumR [bs]) hx
  go_enter Try.func11, Try.ntmps11
  go_wp2_with (first
    | (go_at_call 9; refine (of_any _ _ _ _ [bs] (NB.rdBB_one 23 h rfl)).mono ?_; rintro e w1 ⟨rfl, hb1⟩; have hB1 : Below w.heap.size w w1 := ((Below.refl _ _).alloc (Nat.le_refl _) _).trans (hb1.mono (by simp)))
    | (go_at_call 16; refine (clone_any w1 a _ c bs (Rd.below h hB1) (by omega)).mono ?_; rintro e w2 ⟨a2, c2, rfl, ho2, hb2⟩)
    | (at_builtin; with_reducible refine NB.wpList_append_rd rfl (.tmp 8) (.tmp 20) 23 rfl w1.heap.size slT23 (.slice a2 bs.length c2) bs.length (bs.map NB.u8v) rfl (ho2.alloc _) (some ⟨w2.heap.size, 0, none⟩) 4 4 _ rfl (NB.rd_new w2 _ 5 4 rfl (by unfold maxLen; omega) rfl) ?_ ?_ ?_ ?_ ?_))
  case refine_1 => intro x _; rfl
  case refine_2 => omega
  case refine_3 => unfold maxLen; omega
  case refine_4 => have := hb2.size; simp; omega
  intro v' w' ho hg
  have hB2 : Below w.heap.size w w2 := hB1.trans (hb2.mono hB1.size)
  have hown := ho2.lt
  have hB3 : Below w.heap.size w w' := (hB2.alloc hB2.size _).grown hg (by have := hB2.size; simp; omega) (fun k hk => Nat.le_trans hB1.size (hown k hk).1)
  have ho' := NB.own_mono ho hB1.size
  clear hg ho
  go_wp2
  go_ret
  exact NB.freshB_mk ho' (by simp [sealedL]) hB3

def rightL (bs : List UInt8) : Bool := decide (4 ≤ bs.length) && (sealedL (bs.take (bs.length - 4)) == bs)

theorem rdB_front {w : World} {a : Option Addr} {n c : Nat} {bs : List UInt8} (h : NB.RdB w a n c bs) (k : Nat) (hk : k ≤ n) : NB.RdB w a k k (bs.take k) := by
  have := Rd.front h k hk
  rw [Nat.mul_one, ← List.map_take] at this
  exact this

set_option maxHeartbeats 400000 in
theorem right_any (w : World) (a : Option Addr) (n c : Nat) (bs : List UInt8) (h : NB.RdB w a n c bs) (hl : n ≤ 140737488355328) :
    Calls Try.prog 13 #[.slice a n c] w fun e w' => e = .returned (.bool (rightL bs)) ∧ Below w.heap.size w w' := by
  obtain rfl : n = bs.length := (NB.RdB.size h).symm
  have hbd := Rd.bound h
  have hle := h.le
  by_cases h4 : 4 ≤ bs.length
  · have e0 : ((bs.length : Int) - 4) = ((bs.length - 4 : Nat) : Int) := by omega
    obtain ⟨k, hk⟩ : ∃ k, k = bs.length - 4 := ⟨_, rfl⟩
    rw [← hk] at e0
    have hkl : k ≤ bs.length := by omega
    have HK := Go.Lib.hid hk; clear hk
    go_enter Try.func13, Try.ntmps13
    go_wp2_with (first
      | (go_at_call 11; refine (sealed_any w a k k (bs.take k) (rdB_front h k hkl) (by omega)).mono ?_; rintro e w1 ⟨a2, c2, rfl, ho2, hb2⟩; obtain ⟨a3, c3, e3, hr3, hf3, _⟩ := NB.rd_of_own ho2; cases e3)
      | (go_at_call 18; refine (equal_any w1 _ a _ _ _ c _ bs hr3 (Rd.below h hb2)).mono ?_; rintro e w2 ⟨rfl, hb3⟩))
    go_ret
    refine ⟨?_, hb2.trans (hb3.mono hb2.size)⟩
    have := HK.out
    simp [rightL, h4, this]
  · have hn : ((bs.length : Int) - 4) < 0 := by omega
    go_enter Try.func13, Try.ntmps13
    go_wp2
    go_ret
    exact ⟨by simp [rightL, h4], Below.refl _ _⟩
end Go.Proofs.Ytfokmbpcpfkopaa
