/- A message's numbers, the iterator over a kind's fields: walked. -/
import Derived.Test.YtadgokegjmigoaaDoorMgb
import Derived.Test.YtadgokegjmigoaaDoorRnq
namespace Go.Proofs.YtadgokegjmigoaaDoor
open Go.RowKit Go.Shelf
open Go.NB (Rd Kp Stp Off Dis oneB dB Rw RdU Lp encU encB)
attribute [local go_sem] Oper.semAt_some

/-- A field's number. -/
def natF (m : Mm) (f : Nat) : Nat :=
  match f with
  | 0 => m.ballot
  | 1 => m.slot
  | 2 => m.shard.toNat
  | 3 => m.seg.toNat
  | 4 => m.client
  | 5 => m.seq
  | 6 => m.pos
  | _ => m.code.toNat
theorem encFl_nat (m : Mm) (f : Nat) (hf : f < 8) : encFl m f = encU (natF m f) := by
  have : f = 0 ∨ f = 1 ∨ f = 2 ∨ f = 3 ∨ f = 4 ∨ f = 5 ∨ f = 6 ∨ f = 7 := by omega
  rcases this with rfl | rfl | rfl | rfl | rfl | rfl | rfl | rfl <;> rfl
theorem natF_lt (m : Mm) (f : Nat) (hf : f < 8) (h : okFl f m) : natF m f < 18446744073709551616 := by
  have : f = 0 ∨ f = 1 ∨ f = 2 ∨ f = 3 ∨ f = 4 ∨ f = 5 ∨ f = 6 ∨ f = 7 := by omega
  rcases this with rfl | rfl | rfl | rfl | rfl | rfl | rfl | rfl <;> simp only [okFl] at h <;> simp only [natF] <;> omega

set_option maxRecDepth 100000 in
set_option maxHeartbeats 4000000 in
theorem mnum_any (w : World) (q : Nat) (m : Mm) (av : Option Addr) (cv : Nat) (ab : Option Addr) (cb : Nat) (h : Rw w q (msgV m av cv ab cb) 32) (f : Nat) (hf : f < 8) (hok : okFl f m) (x : Int) (hx : x = ((2 ^ f : Nat) : Int)) :
    Calls Tryd.prog 35 #[.pointer (some ⟨q, 0, none⟩), .int .u64 x] w fun e w' => e = .returned (.int .u64 (natF m f : Int)) ∧ w' = w := by
  subst hx
  have hcs : f = 0 ∨ f = 1 ∨ f = 2 ∨ f = 3 ∨ f = 4 ∨ f = 5 ∨ f = 6 ∨ f = 7 := by omega
  rcases hcs with rfl | rfl | rfl | rfl | rfl | rfl | rfl | rfl
  · have c := h.cell 1 _ rfl
    simp only [natF]
    have hp : ((2 ^ 0 : Nat) : Int) = 1 := rfl
    rw [hp]
    clear hok hp
    go_enter Tryd.func35, Tryd.ntmps35
    go_wp2
    go_ret
    exact ⟨rfl, rfl⟩
  · have c := h.cell 2 _ rfl
    simp only [natF]
    have hp : ((2 ^ 1 : Nat) : Int) = 2 := rfl
    rw [hp]
    clear hok hp
    go_enter Tryd.func35, Tryd.ntmps35
    go_wp2
    go_ret
    exact ⟨rfl, rfl⟩
  · have c := h.cell 3 _ rfl
    simp only [okFl] at hok
    have hw : IntKind.u64.wrap m.shard = m.shard := IntWalk.u64_in _ ⟨by omega, by omega⟩
    have hn : (natF m 2 : Int) = m.shard := by show ((m.shard.toNat : Nat) : Int) = m.shard; omega
    rw [hn]
    clear hn
    have hp : ((2 ^ 2 : Nat) : Int) = 4 := rfl
    rw [hp]
    clear hok hp
    go_enter Tryd.func35, Tryd.ntmps35
    go_wp2
    go_ret
    exact ⟨rfl, rfl⟩
  · have c := h.cell 4 _ rfl
    simp only [okFl] at hok
    have hw : IntKind.u64.wrap m.seg = m.seg := IntWalk.u64_in _ ⟨by omega, by omega⟩
    have hn : (natF m 3 : Int) = m.seg := by show ((m.seg.toNat : Nat) : Int) = m.seg; omega
    rw [hn]
    clear hn
    have hp : ((2 ^ 3 : Nat) : Int) = 8 := rfl
    rw [hp]
    clear hok hp
    go_enter Tryd.func35, Tryd.ntmps35
    go_wp2
    go_ret
    exact ⟨rfl, rfl⟩
  · have c := h.cell 5 _ rfl
    simp only [natF]
    have hp : ((2 ^ 4 : Nat) : Int) = 16 := rfl
    rw [hp]
    clear hok hp
    go_enter Tryd.func35, Tryd.ntmps35
    go_wp2
    go_ret
    exact ⟨rfl, rfl⟩
  · have c := h.cell 6 _ rfl
    simp only [natF]
    have hp : ((2 ^ 5 : Nat) : Int) = 32 := rfl
    rw [hp]
    clear hok hp
    go_enter Tryd.func35, Tryd.ntmps35
    go_wp2
    go_ret
    exact ⟨rfl, rfl⟩
  · have c := h.cell 7 _ rfl
    simp only [natF]
    have hp : ((2 ^ 6 : Nat) : Int) = 64 := rfl
    rw [hp]
    clear hok hp
    go_enter Tryd.func35, Tryd.ntmps35
    go_wp2
    go_ret
    exact ⟨rfl, rfl⟩
  · have c := h.cell 8 _ rfl
    simp only [okFl] at hok
    have hw : IntKind.u64.wrap m.code = m.code := IntWalk.u64_in _ ⟨by omega, by omega⟩
    have hn : (natF m 7 : Int) = m.code := by show ((m.code.toNat : Nat) : Int) = m.code; omega
    rw [hn]
    clear hn
    have hp : ((2 ^ 7 : Nat) : Int) = 128 := rfl
    rw [hp]
    clear hok hp
    go_enter Tryd.func35, Tryd.ntmps35
    go_wp2
    go_ret
    exact ⟨rfl, rfl⟩

set_option maxHeartbeats 400000 in
theorem each_any (w : World) (k : Int) : Calls Tryd.prog 25 #[.int .i64 k] w fun e w' => e = .returned (.func (.func 50) #[] #[.pointer (some ⟨w.heap.size, 0, none⟩)]) ∧ w' = w.alloc (.cells #[.int .i64 k] 3) := by
  go_enter Tryd.func25, Tryd.ntmps25
  go_wp2
  go_ret
  exact ⟨rfl, rfl⟩

theorem and_pow (x i : Nat) : x &&& 2 ^ i = if x.testBit i = true then 2 ^ i else 0 := by
  refine Nat.eq_of_testBit_eq fun j => ?_
  rw [Nat.testBit_and, Nat.testBit_two_pow]
  by_cases h : i = j
  · subst h
    cases hx : x.testBit i <;> simp
  · cases hx : x.testBit i <;> simp [h]
theorem fld_and (k i : Nat) (hk : k < 19) (hi : i < 10) : bits .and .u64 ((fldN.getD k 0 : Nat) : Int) ((2 ^ i : Nat) : Int) = if (flds k).contains i = true then ((2 ^ i : Nat) : Int) else 0 := by
  have h10 : 2 ^ i ≤ 2 ^ 9 := Nat.pow_le_pow_right (by omega) (by omega)
  rw [bits_and _ _ (by have := fld_lt k hk; omega) (by omega), and_pow, fld_bit k hk i hi]
  split <;> rfl

set_option maxRecDepth 100000 in
set_option maxHeartbeats 8000000 in
/-- The iterator: it tells a kind's fields, in order. -/
theorem each1_in (m : Nat) (hm : 1 ≤ m) (l0 bb k : Nat) (hk : k < 19) (J : Nat → World → Prop) (Jx : World → Prop)
    (hJc : ∀ i W, J i W → W.cell? ⟨bb, 0, none⟩ = some (.int .i64 (k : Int)) ∧ Tb W)
    (hJs : ∀ i W, J i W → (flds k).contains i = false → J (i + 1) W)
    (hY : ∀ i W, i < 10 → J i W → (flds k).contains i = true → YieldAt Fence.wide (m - 1) Tryd.prog l0 #[.int .u64 ((2 ^ i : Nat) : Int)] W fun e W' => (e = .returned (.bool true) ∧ J (i + 1) W') ∨ (e = .returned (.bool false) ∧ Jx W'))
    (W : World) (h0 : J 0 W) :
    CallsIn Fence.wide m Tryd.prog 50 #[.func (.yield l0) #[] #[], .pointer (some ⟨bb, 0, none⟩)] W fun e W' => (∃ v, e = .returned v) ∧ (J 10 W' ∨ Jx W') := by
  refine callsIn_of_wp Tryd.func50 rfl trivial ?_ rfl
  simp only [Tryd.ntmps50, List.size_toArray, List.length_cons, List.length_nil, Nat.reduceAdd, Nat.reduceSub, Array.replicate_succ, Array.replicate_zero, List.push_toArray, List.append_toArray, List.nil_append, List.cons_append]
  gi_wp2
  gi_loopw [3] (fun q wr => ∃ i : Nat, i ≤ 10 ∧ q = .int .u64 ((2 ^ i : Nat) : Int) ∧ J i wr) (fun q _ => 2048 - (intOf q).toNat)
  case atStart => exact ⟨0, by omega, rfl, h0⟩
  case round =>
    clear h0
    obtain ⟨i, hi, rfl, hJ⟩ := hrel
    obtain ⟨cb, hT⟩ := hJc _ _ hJ
    have h0k : (0 : Int) ≤ (k : Int) := by omega
    have h19k : (k : Int) < 19 := by omega
    have hf := hT k hk
    have hand := fun h => fld_and k i hk h
    obtain ⟨T, hTt⟩ : ∃ T, fldN.getD k 0 = T := ⟨_, rfl⟩
    rw [hTt] at hf hand
    clear hTt
    obtain ⟨c, hc⟩ : ∃ c, (flds k).contains i = c := ⟨_, rfl⟩
    have hsk := hJs i wr hJ
    have hyy := fun h => hY i wr h hJ
    rw [hc] at hand hsk hyy
    have HS := Go.Lib.hid hsk
    have HA := Go.Lib.hid hand
    have HYY := Go.Lib.hid hyy
    have HJ := Go.Lib.hid hJ
    have HJC := Go.Lib.hid hJc
    clear hY hJs hJc hsk hyy hc hJ hT hand
    by_cases hi10 : i = 10
    · subst hi10
      have hp : ((2 ^ 10 : Nat) : Int) = 1024 := rfl
      rw [hp]
      gi_wp2_with fail
      go_end0
      exact ⟨⟨_, rfl⟩, .inl HJ.out⟩
    have hcs : i = 0 ∨ i = 1 ∨ i = 2 ∨ i = 3 ∨ i = 4 ∨ i = 5 ∨ i = 6 ∨ i = 7 ∨ i = 8 ∨ i = 9 := by omega
    rcases hcs with rfl | rfl | rfl | rfl | rfl | rfl | rfl | rfl | rfl | rfl
    · have hand := HA.out (by omega)
      have hp : ((2 ^ 0 : Nat) : Int) = 1 := rfl
      rw [hp] at hand ⊢
      cases c
      · rw [if_neg (by simp)] at hand
        gi_wp2_with fail
        refine ⟨(fun _ h => by cases h), ?_⟩
        gi_wp2_with fail
        go_roundw
        case rel => exact ⟨1, by omega, rfl, HS.out trivial⟩
        case measure => simp [intOf]
      · rw [if_pos rfl] at hand
        obtain ⟨fn, tmps, assign, body, hy, hR⟩ := HYY.out (by omega) rfl
        rw [hp] at hy
        have HY1 := Go.Lib.hid hy
        have HR1 := Go.Lib.hid hR
        clear hy hR hp
        gi_wp2_with fail
        rw [HY1.out, Oper.uponIn_round]
        refine ⟨fun _ => hm, HR1.out.mono ?_⟩
        rintro e W3 (⟨rfl, hJ3⟩ | ⟨rfl, hJ3⟩)
        · gi_wp2_with fail
          go_roundw
          case rel => exact ⟨1, by omega, rfl, hJ3⟩
          case measure => simp [intOf]
        · gi_wp2_with fail
          refine bodyPost_ret (results_none rfl _ _ _) rfl ?_
          exact ⟨⟨_, rfl⟩, .inr hJ3⟩
    · have hand := HA.out (by omega)
      have hp : ((2 ^ 1 : Nat) : Int) = 2 := rfl
      rw [hp] at hand ⊢
      cases c
      · rw [if_neg (by simp)] at hand
        gi_wp2_with fail
        refine ⟨(fun _ h => by cases h), ?_⟩
        gi_wp2_with fail
        go_roundw
        case rel => exact ⟨2, by omega, rfl, HS.out trivial⟩
        case measure => simp [intOf]
      · rw [if_pos rfl] at hand
        obtain ⟨fn, tmps, assign, body, hy, hR⟩ := HYY.out (by omega) rfl
        rw [hp] at hy
        have HY1 := Go.Lib.hid hy
        have HR1 := Go.Lib.hid hR
        clear hy hR hp
        gi_wp2_with fail
        rw [HY1.out, Oper.uponIn_round]
        refine ⟨fun _ => hm, HR1.out.mono ?_⟩
        rintro e W3 (⟨rfl, hJ3⟩ | ⟨rfl, hJ3⟩)
        · gi_wp2_with fail
          go_roundw
          case rel => exact ⟨2, by omega, rfl, hJ3⟩
          case measure => simp [intOf]
        · gi_wp2_with fail
          refine bodyPost_ret (results_none rfl _ _ _) rfl ?_
          exact ⟨⟨_, rfl⟩, .inr hJ3⟩
    · have hand := HA.out (by omega)
      have hp : ((2 ^ 2 : Nat) : Int) = 4 := rfl
      rw [hp] at hand ⊢
      cases c
      · rw [if_neg (by simp)] at hand
        gi_wp2_with fail
        refine ⟨(fun _ h => by cases h), ?_⟩
        gi_wp2_with fail
        go_roundw
        case rel => exact ⟨3, by omega, rfl, HS.out trivial⟩
        case measure => simp [intOf]
      · rw [if_pos rfl] at hand
        obtain ⟨fn, tmps, assign, body, hy, hR⟩ := HYY.out (by omega) rfl
        rw [hp] at hy
        have HY1 := Go.Lib.hid hy
        have HR1 := Go.Lib.hid hR
        clear hy hR hp
        gi_wp2_with fail
        rw [HY1.out, Oper.uponIn_round]
        refine ⟨fun _ => hm, HR1.out.mono ?_⟩
        rintro e W3 (⟨rfl, hJ3⟩ | ⟨rfl, hJ3⟩)
        · gi_wp2_with fail
          go_roundw
          case rel => exact ⟨3, by omega, rfl, hJ3⟩
          case measure => simp [intOf]
        · gi_wp2_with fail
          refine bodyPost_ret (results_none rfl _ _ _) rfl ?_
          exact ⟨⟨_, rfl⟩, .inr hJ3⟩
    · have hand := HA.out (by omega)
      have hp : ((2 ^ 3 : Nat) : Int) = 8 := rfl
      rw [hp] at hand ⊢
      cases c
      · rw [if_neg (by simp)] at hand
        gi_wp2_with fail
        refine ⟨(fun _ h => by cases h), ?_⟩
        gi_wp2_with fail
        go_roundw
        case rel => exact ⟨4, by omega, rfl, HS.out trivial⟩
        case measure => simp [intOf]
      · rw [if_pos rfl] at hand
        obtain ⟨fn, tmps, assign, body, hy, hR⟩ := HYY.out (by omega) rfl
        rw [hp] at hy
        have HY1 := Go.Lib.hid hy
        have HR1 := Go.Lib.hid hR
        clear hy hR hp
        gi_wp2_with fail
        rw [HY1.out, Oper.uponIn_round]
        refine ⟨fun _ => hm, HR1.out.mono ?_⟩
        rintro e W3 (⟨rfl, hJ3⟩ | ⟨rfl, hJ3⟩)
        · gi_wp2_with fail
          go_roundw
          case rel => exact ⟨4, by omega, rfl, hJ3⟩
          case measure => simp [intOf]
        · gi_wp2_with fail
          refine bodyPost_ret (results_none rfl _ _ _) rfl ?_
          exact ⟨⟨_, rfl⟩, .inr hJ3⟩
    · have hand := HA.out (by omega)
      have hp : ((2 ^ 4 : Nat) : Int) = 16 := rfl
      rw [hp] at hand ⊢
      cases c
      · rw [if_neg (by simp)] at hand
        gi_wp2_with fail
        refine ⟨(fun _ h => by cases h), ?_⟩
        gi_wp2_with fail
        go_roundw
        case rel => exact ⟨5, by omega, rfl, HS.out trivial⟩
        case measure => simp [intOf]
      · rw [if_pos rfl] at hand
        obtain ⟨fn, tmps, assign, body, hy, hR⟩ := HYY.out (by omega) rfl
        rw [hp] at hy
        have HY1 := Go.Lib.hid hy
        have HR1 := Go.Lib.hid hR
        clear hy hR hp
        gi_wp2_with fail
        rw [HY1.out, Oper.uponIn_round]
        refine ⟨fun _ => hm, HR1.out.mono ?_⟩
        rintro e W3 (⟨rfl, hJ3⟩ | ⟨rfl, hJ3⟩)
        · gi_wp2_with fail
          go_roundw
          case rel => exact ⟨5, by omega, rfl, hJ3⟩
          case measure => simp [intOf]
        · gi_wp2_with fail
          refine bodyPost_ret (results_none rfl _ _ _) rfl ?_
          exact ⟨⟨_, rfl⟩, .inr hJ3⟩
    · have hand := HA.out (by omega)
      have hp : ((2 ^ 5 : Nat) : Int) = 32 := rfl
      rw [hp] at hand ⊢
      cases c
      · rw [if_neg (by simp)] at hand
        gi_wp2_with fail
        refine ⟨(fun _ h => by cases h), ?_⟩
        gi_wp2_with fail
        go_roundw
        case rel => exact ⟨6, by omega, rfl, HS.out trivial⟩
        case measure => simp [intOf]
      · rw [if_pos rfl] at hand
        obtain ⟨fn, tmps, assign, body, hy, hR⟩ := HYY.out (by omega) rfl
        rw [hp] at hy
        have HY1 := Go.Lib.hid hy
        have HR1 := Go.Lib.hid hR
        clear hy hR hp
        gi_wp2_with fail
        rw [HY1.out, Oper.uponIn_round]
        refine ⟨fun _ => hm, HR1.out.mono ?_⟩
        rintro e W3 (⟨rfl, hJ3⟩ | ⟨rfl, hJ3⟩)
        · gi_wp2_with fail
          go_roundw
          case rel => exact ⟨6, by omega, rfl, hJ3⟩
          case measure => simp [intOf]
        · gi_wp2_with fail
          refine bodyPost_ret (results_none rfl _ _ _) rfl ?_
          exact ⟨⟨_, rfl⟩, .inr hJ3⟩
    · have hand := HA.out (by omega)
      have hp : ((2 ^ 6 : Nat) : Int) = 64 := rfl
      rw [hp] at hand ⊢
      cases c
      · rw [if_neg (by simp)] at hand
        gi_wp2_with fail
        refine ⟨(fun _ h => by cases h), ?_⟩
        gi_wp2_with fail
        go_roundw
        case rel => exact ⟨7, by omega, rfl, HS.out trivial⟩
        case measure => simp [intOf]
      · rw [if_pos rfl] at hand
        obtain ⟨fn, tmps, assign, body, hy, hR⟩ := HYY.out (by omega) rfl
        rw [hp] at hy
        have HY1 := Go.Lib.hid hy
        have HR1 := Go.Lib.hid hR
        clear hy hR hp
        gi_wp2_with fail
        rw [HY1.out, Oper.uponIn_round]
        refine ⟨fun _ => hm, HR1.out.mono ?_⟩
        rintro e W3 (⟨rfl, hJ3⟩ | ⟨rfl, hJ3⟩)
        · gi_wp2_with fail
          go_roundw
          case rel => exact ⟨7, by omega, rfl, hJ3⟩
          case measure => simp [intOf]
        · gi_wp2_with fail
          refine bodyPost_ret (results_none rfl _ _ _) rfl ?_
          exact ⟨⟨_, rfl⟩, .inr hJ3⟩
    · have hand := HA.out (by omega)
      have hp : ((2 ^ 7 : Nat) : Int) = 128 := rfl
      rw [hp] at hand ⊢
      cases c
      · rw [if_neg (by simp)] at hand
        gi_wp2_with fail
        refine ⟨(fun _ h => by cases h), ?_⟩
        gi_wp2_with fail
        go_roundw
        case rel => exact ⟨8, by omega, rfl, HS.out trivial⟩
        case measure => simp [intOf]
      · rw [if_pos rfl] at hand
        obtain ⟨fn, tmps, assign, body, hy, hR⟩ := HYY.out (by omega) rfl
        rw [hp] at hy
        have HY1 := Go.Lib.hid hy
        have HR1 := Go.Lib.hid hR
        clear hy hR hp
        gi_wp2_with fail
        rw [HY1.out, Oper.uponIn_round]
        refine ⟨fun _ => hm, HR1.out.mono ?_⟩
        rintro e W3 (⟨rfl, hJ3⟩ | ⟨rfl, hJ3⟩)
        · gi_wp2_with fail
          go_roundw
          case rel => exact ⟨8, by omega, rfl, hJ3⟩
          case measure => simp [intOf]
        · gi_wp2_with fail
          refine bodyPost_ret (results_none rfl _ _ _) rfl ?_
          exact ⟨⟨_, rfl⟩, .inr hJ3⟩
    · have hand := HA.out (by omega)
      have hp : ((2 ^ 8 : Nat) : Int) = 256 := rfl
      rw [hp] at hand ⊢
      cases c
      · rw [if_neg (by simp)] at hand
        gi_wp2_with fail
        refine ⟨(fun _ h => by cases h), ?_⟩
        gi_wp2_with fail
        go_roundw
        case rel => exact ⟨9, by omega, rfl, HS.out trivial⟩
        case measure => simp [intOf]
      · rw [if_pos rfl] at hand
        obtain ⟨fn, tmps, assign, body, hy, hR⟩ := HYY.out (by omega) rfl
        rw [hp] at hy
        have HY1 := Go.Lib.hid hy
        have HR1 := Go.Lib.hid hR
        clear hy hR hp
        gi_wp2_with fail
        rw [HY1.out, Oper.uponIn_round]
        refine ⟨fun _ => hm, HR1.out.mono ?_⟩
        rintro e W3 (⟨rfl, hJ3⟩ | ⟨rfl, hJ3⟩)
        · gi_wp2_with fail
          go_roundw
          case rel => exact ⟨9, by omega, rfl, hJ3⟩
          case measure => simp [intOf]
        · gi_wp2_with fail
          refine bodyPost_ret (results_none rfl _ _ _) rfl ?_
          exact ⟨⟨_, rfl⟩, .inr hJ3⟩
    · have hand := HA.out (by omega)
      have hp : ((2 ^ 9 : Nat) : Int) = 512 := rfl
      rw [hp] at hand ⊢
      cases c
      · rw [if_neg (by simp)] at hand
        gi_wp2_with fail
        refine ⟨(fun _ h => by cases h), ?_⟩
        gi_wp2_with fail
        go_roundw
        case rel => exact ⟨10, by omega, rfl, HS.out trivial⟩
        case measure => simp [intOf]
      · rw [if_pos rfl] at hand
        obtain ⟨fn, tmps, assign, body, hy, hR⟩ := HYY.out (by omega) rfl
        rw [hp] at hy
        have HY1 := Go.Lib.hid hy
        have HR1 := Go.Lib.hid hR
        clear hy hR hp
        gi_wp2_with fail
        rw [HY1.out, Oper.uponIn_round]
        refine ⟨fun _ => hm, HR1.out.mono ?_⟩
        rintro e W3 (⟨rfl, hJ3⟩ | ⟨rfl, hJ3⟩)
        · gi_wp2_with fail
          go_roundw
          case rel => exact ⟨10, by omega, rfl, hJ3⟩
          case measure => simp [intOf]
        · gi_wp2_with fail
          refine bodyPost_ret (results_none rfl _ _ _) rfl ?_
          exact ⟨⟨_, rfl⟩, .inr hJ3⟩
end Go.Proofs.YtadgokegjmigoaaDoor
