/- The walk for the statement FrameBig. -/
import Derived.Test.YtcipghogcehfnaaFrw
import Derived.Test.YtcipghogcehfnaaOst
namespace Go.Proofs.Ytcipghogcehfnaa
open Go.RowKit
open Go.NB (Rd Kp Stp Off Dis Rr encU oneB dB Rw digs)

theorem made_b (v : Value) (n : Nat) : (madeCells #[v] n).toList = List.replicate n v := by
  have e2 : ∀ x : Nat, (#[v] : Array Value)[x % (#[v] : Array Value).size]! = v := by
    intro x
    rw [show x % (#[v] : Array Value).size = 0 from Nat.mod_one x]
    rfl
  unfold madeCells
  simp only [e2]
  simp [List.map_const']
theorem digs_big (r : Nat) (h : r ≤ 5) : digs (65536 + r) = [1, 0, UInt8.ofNat r] := by
  rw [NB.digs_pos _ (by omega), NB.digs_pos ((65536 + r) / 256) (by omega), NB.digs_pos ((65536 + r) / 256 / 256) (by omega), show (65536 + r) / 256 / 256 / 256 = 0 by omega, NB.digs_zero,
    show (65536 + r) / 256 / 256 % 256 = 1 by omega, show (65536 + r) / 256 % 256 = 0 by omega, show (65536 + r) % 256 = r by omega]
  rfl
theorem digs_two {x : Nat} (h : 256 ≤ x) (h2 : x < 65536) : (digs x).length = 2 := by
  have h3 := (NB.digs_len_le 2 x).1 (by omega)
  have h4 := mt (NB.digs_len_le 1 x).2 (by omega)
  omega
theorem fget_big (r : Nat) (h : r ≤ 5) (k : UInt8) : fgetM [3, 1, 0, UInt8.ofNat r, k] = ((0, []), 0, 13) := by
  have e : [3, 1, 0, UInt8.ofNat r, k] = encU (65536 + r) ++ [k] := by
    unfold encU; rw [digs_big r h]; rfl
  have hu := Rr.uint_enc (x := 65536 + r) (by omega) [k]
  rw [e]
  simp only [fgetM, hu]
  rw [if_neg (by simp), if_pos (by omega)]

set_option maxHeartbeats 2000000 in
theorem law_fbig (w : World) (q k : Int) (hq : (Lit.int .u16 q).wf = true) (hk : (Lit.int .u8 k).wf = true) :
    Calls Try.prog 7 #[.int .u16 q, .int .u8 k] w fun e w' => e = .returned (.bool true) ∧ Below w.heap.size w w' := by
  obtain ⟨i, hi, hz, hszi, hby⟩ := slTB.hi
  obtain ⟨k, rfl⟩ : ∃ K : UInt8, k = (K.toNat : Int) := ⟨UInt8.ofNat k.toNat, (NB.u8_of_wf hk).symm⟩
  have hqb := bounds_u16 hq
  obtain ⟨q, rfl⟩ := Int.eq_ofNat_of_zero_le hqb.1
  clear hk hq
  obtain ⟨K, hK⟩ : ∃ K, K = 65530 + q % 12 := ⟨_, rfl⟩
  have hK1 : 65530 ≤ K ∧ K ≤ 65541 := by omega
  have hKi : (65530 : Int) + ((q : Int) % 12) = (K : Int) := by rw [hK]; simp
  clear hK
  obtain ⟨hK2, hK3⟩ := hK1
  have hrl : (List.replicate K (0 : UInt8)).length = K := List.length_replicate
  by_cases hb : 65535 < K
  · have hbi : (65535 : Int) < (K : Int) := by omega
    have cp := fun w a n c h => fput_any w k a n c (List.replicate K 0) h
    rw [fput_big (f := (k, List.replicate K 0)) (by simp only; omega)] at cp
    obtain ⟨r, rfl⟩ : ∃ r, K = 65536 + r := ⟨K - 65536, by omega⟩
    have hg := fget_big r (by omega) k
    have HG := Go.Lib.hid hg; have HCP := Go.Lib.hid cp; have HRL := Go.Lib.hid hrl
    clear hg cp hrl
    have hri : ((UInt8.ofNat r).toNat : Int) = (r : Int) := by rw [UInt8.toNat_ofNat']; omega
    go_enter Try.func7, Try.ntmps7
    go_wp2_with (first
      | (go_at_call 9; refine (fawake_any _).mono ?_; rintro e w1 ⟨rfl, hb1⟩)
      | (at_make; refine wpList_make_full w1 rfl (.tmp 24) (.tmp 24) 22 rfl w1.heap.size 5 i (.int .u8 0) 1 slTB.ht hi hz hszi .i64 .i64 _ _ (65536 + r) rfl rfl (by simp) (by simp) (by rw [hby]; omega) (by unfold maxLen; omega) (Nat.le_refl _) ?_; intro w2 ho2 hg2))
    have hb2 : Below w1.heap.size w1 w2 := (Below.refl _ w1).grown hg2 (Nat.le_refl _) (by rintro k hk; cases hk)
    have B2 := NB.bel hb1 hb2 hb1.size
    have R2 : NB.RdB w2 (some ⟨w1.heap.size, 0, none⟩) (65536 + r) (65536 + r) (List.replicate (65536 + r) 0) := by
      obtain ⟨a2, c2, e2, hr2, _⟩ := NB.rd_of_own ho2
      cases e2
      rw [show (Value.int IntKind.u8 0).cells = #[.int .u8 0] from rfl, Nat.mul_one, made_b] at hr2
      show Rd 1 _ _ _ _ ((List.replicate (65536 + r) 0).map NB.u8v)
      rw [List.map_replicate]
      exact hr2
    clear ho2 hg2 hb2 hb1
    refine (HCP.out _ _ _ _ R2).mono ?_
    rintro e w3 ⟨a3, c3, rfl, ho3, hb3⟩
    have B3 := NB.bel B2 hb3 B2.size
    simp only [List.length_nil]
    clear ho3 hb3 R2 B2
    go_wp2_with fail
    have e1 : ((65536 : Int) + (r : Int)) / 256 % 256 = 0 := by omega
    have e2 : ((65536 : Int) + (r : Int)) % 256 = (r : Int) := by omega
    rw [e1, e2]
    have m5 : (5 : Nat) ≤ maxLen := by unfold maxLen; omega
    have B4 := B3.alloc B3.size (.cells #[.int .u8 3, .int .u8 1, .int .u8 0, .int .u8 (r : Int), .int .u8 (k.toNat : Int)] 5)
    have r3 := NB.rdB_lit (w := w3) (fr := (0, 0)) (t := 5) [3, 1, 0, UInt8.ofNat r, k] (cs := #[.int .u8 3, .int .u8 1, .int .u8 0, .int .u8 (r : Int), .int .u8 (k.toNat : Int)]) (by rw [← hri]; rfl) rfl m5 rfl
    refine (fget_any _ _ _ _ _ r3 (by simp)).mono ?_
    rw [HG.out]
    rintro e w5 ⟨a5, n5, c5, rfl, _, hb5, _⟩
    have B5 := NB.bel B4 hb5 B4.size
    clear hb5 r3 B4 B3 e1 e2
    go_wp2_with fail
    go_ret
    exact ⟨by simp, B5.alloc B5.size _⟩
  · have hbi : ¬ (65535 : Int) < (K : Int) := by omega
    have cp := fun w a n c h => fput_any w k a n c (List.replicate K 0) h
    rw [fput_is (f := (k, List.replicate K 0)) (by simp only; omega)] at cp
    have hlen := fbL_len (k, List.replicate K 0)
    have hgg := fget_put (k, List.replicate K 0) (by simp only; omega) []
    rw [List.append_nil] at hgg
    have hd2 := digs_two (show 256 ≤ K by omega) (by omega)
    simp [encU, hd2] at hlen
    generalize fbL (k, List.replicate K 0) = Z at *
    have hzl : Z.length = K + 8 := by omega
    have HG := Go.Lib.hid hgg; have HCP := Go.Lib.hid cp; have HRL := Go.Lib.hid hrl; have HZL := Go.Lib.hid hzl
    clear hlen hgg cp hrl hzl
    go_enter Try.func7, Try.ntmps7
    go_wp2_with (first
      | (go_at_call 9; refine (fawake_any _).mono ?_; rintro e w1 ⟨rfl, hb1⟩)
      | (at_make; refine wpList_make_full w1 rfl (.tmp 24) (.tmp 24) 22 rfl w1.heap.size 5 i (.int .u8 0) 1 slTB.ht hi hz hszi .i64 .i64 _ _ K rfl rfl (by simp) (by simp) (by rw [hby]; omega) (by unfold maxLen; omega) (Nat.le_refl _) ?_; intro w2 ho2 hg2))
    have hb2 : Below w1.heap.size w1 w2 := (Below.refl _ w1).grown hg2 (Nat.le_refl _) (by rintro k hk; cases hk)
    have B2 := NB.bel hb1 hb2 hb1.size
    have R2 : NB.RdB w2 (some ⟨w1.heap.size, 0, none⟩) K K (List.replicate K 0) := by
      obtain ⟨a2, c2, e2, hr2, _⟩ := NB.rd_of_own ho2
      cases e2
      rw [show (Value.int IntKind.u8 0).cells = #[.int .u8 0] from rfl, Nat.mul_one, made_b] at hr2
      show Rd 1 _ _ _ _ ((List.replicate K 0).map NB.u8v)
      rw [List.map_replicate]
      exact hr2
    clear ho2 hg2 hb2 hb1
    refine (HCP.out _ _ _ _ R2).mono ?_
    rintro e w3 ⟨a3, c3, rfl, ho3, hb3⟩
    have B3 := NB.bel B2 hb3 B2.size
    have r3 := (Off.fresh (F := fun _ => False) ho3 (fun _ h => h.elim)).rd
    simp only at r3 ⊢
    rw [HZL.out] at r3 ⊢
    clear ho3 hb3 R2 B2
    go_wp2_with fail
    refine (fget_any _ _ _ _ _ r3 (by omega)).mono ?_
    rw [HG.out]
    rintro e w5 ⟨a5, n5, c5, rfl, hr5, hb5, _⟩
    have hn5 := NB.RdB.size hr5
    simp only at hn5 ⊢
    rw [HRL.out] at hn5
    subst hn5
    rw [HZL.out]
    have B5 := NB.bel B3 hb5 B3.size
    clear hb5 r3 B3 hr5
    go_wp2_with fail
    go_ret
    exact ⟨by simp, B5.alloc B5.size _⟩
end Go.Proofs.Ytcipghogcehfnaa
