import Derived.Test.YtjfidhjnbcmhfaaRows
import Derived.Test.YtjfidhjnbcmhfaaSlc
import Derived.Test.YtjfidhjnbcmhfaaEql
import Derived.Test.YtjfidhjnbcmhfaaCrc
import Derived.WalkKit
import Derived.WalkSpells
import Derived.WalkLawsBesides
import Derived.BigQuiet
import Derived.Lib.Hide
import Derived.Deep.QuietTactic
namespace Go.Proofs.Ytjfidhjnbcmhfaa
open Go.RowKit
open Go.NB.Crc
open Go.NB (Rd)

def tabArr (k : Nat) : Array Value := ((List.range 16).map fun i => if i < k then Value.int .u32 (crcSteps 4 i : Nat) else Value.int .u32 0).toArray

theorem tabArr_get (k : Nat) (h : k < 16) : (tabArr k)[k]? = some (.int .u32 0) := by
  simp [tabArr, h]
theorem tabArr_set (k : Nat) (h : k < 16) : (tabArr k).setIfInBounds k (.int .u32 (crcSteps 4 k : Nat)) = tabArr (k+1) := by
  apply Array.ext'
  unfold tabArr
  simp only [Array.toList_setIfInBounds]
  apply List.ext_getElem?
  intro i
  rw [List.getElem?_set]
  simp only [List.length_map, List.length_range, List.getElem?_map]
  by_cases hi : k = i
  · subst hi; simp [h]
  · simp only [hi, if_false]
    by_cases h16 : i < 16
    · simp [h16]
      by_cases h2 : i < k
      · simp [h2, show i < k + 1 by omega]
      · simp [h2, show ¬ i < k + 1 by omega]
    · simp [h16]

theorem step_xor (z : Nat) (h : z < 4294967296) : (bits BinOp.xor IntKind.u32 ((z : Int) / 2) (bits BinOp.and IntKind.u32 (z : Int) 1 * 2197175160 % 4294967296)) = ((crcStep z : Nat) : Int) := by
  rw [show (bits BinOp.and IntKind.u32 (z : Int) 1) = ((z &&& 1 : Nat) : Int) from u32_and_nat z 1 h (by omega), nat_mask1]
  rw [show ((z : Int) / 2) = ((z / 2 : Nat) : Int) by omega]
  have : z % 2 < 2 := Nat.mod_lt _ (by omega)
  rw [show (((z % 2 : Nat) : Int) * 2197175160 % 4294967296) = ((z % 2 * 2197175160 : Nat) : Int) by omega]
  rw [u32_xor_nat _ _ (by omega) (by omega)]
  rfl
theorem crcStep_lt (z : Nat) (h : z < 4294967296) : crcStep z < 4294967296 := by
  unfold crcStep
  exact Nat.xor_lt_two_pow (n := 32) (by omega) (by omega)

theorem tabArr_size (k : Nat) : (tabArr k).size = 16 := by simp [tabArr]
theorem tabArr_one (k : Nat) : ∀ v ∈ (tabArr k).toList, v.oneCell' = true := by
  intro v hv
  simp only [tabArr, List.mem_map] at hv
  obtain ⟨i, _, rfl⟩ := hv
  split <;> rfl
set_option pp.maxSteps 3000
set_option maxHeartbeats 400000 in
theorem table_any (w : World)  :
    Calls Try.prog 75 #[] w fun e w' => e = .returned (.agg (tabArr 16)) ∧ Below w.heap.size w w' := by
  go_enter Try.func75, Try.ntmps75
  go_wp2
  go_loopw [4] (fun i wr => ∃ k : Nat, k ≤ 16 ∧ i = .int .i64 k ∧ wr = (w.alloc (Obj.cells #[.int .u32 0, .int .u32 0, .int .u32 0, .int .u32 0, .int .u32 0, .int .u32 0, .int .u32 0, .int .u32 0, .int .u32 0, .int .u32 0, .int .u32 0, .int .u32 0, .int .u32 0, .int .u32 0, .int .u32 0, .int .u32 0] 129)).alloc (Obj.cells (tabArr k) 129)) (fun i _ => 16 - (intOf i).toNat)
  case atStart => exact ⟨0, by omega, rfl, rfl⟩
  case round =>
    obtain ⟨k, hk, rfl, rfl⟩ := hrel
    by_cases hlt : k < 16
    · go_wp2
      go_loop [3, 9] (fun x j => ∃ q : Nat, q ≤ 4 ∧ j = .int .i64 q ∧ ∃ z : Nat, z = crcSteps q k ∧ z < 4294967296 ∧ x = .int .u32 z) (fun _ i => 4 - (intOf i).toNat)
      case atStart => exact ⟨0, by omega, rfl, k, rfl, by omega, rfl⟩
      case round =>
        obtain ⟨q, hq, rfl, z, hzz, hz', rfl⟩ := hrel
        have HZ := Go.Lib.hid hzz; clear hzz
        by_cases hqt : q < 4
        · go_wp2
          go_round
          case rel => exact ⟨q+1, by omega, by go_num, crcStep z, by rw [HZ.out]; rfl, crcStep_lt _ hz', by rw [step_xor z hz']⟩
          case measure => simp [intOf]; omega
        · obtain rfl : q = 4 := by omega
          have ht := tabArr_get k hlt
          go_wp2
          go_roundw
          case rel => exact ⟨k+1, by omega, by go_num, by rw [HZ.out, tabArr_set k hlt]⟩
          case measure => simp [intOf]; omega
    · obtain rfl : k = 16 := by omega
      go_wp2_with (first
        | (with_reducible refine NB.wpList_load_agg (o := ⟨some 22, _, _, _, _, _⟩) rfl 129 (.tmp 1) rfl (w.heap.size + 1) 0 16 rfl 129 (tabArr 16) (0, 0) _ (heap_alloc2_new _ _ _) Try.underlying129 rfl (by kernel_rfl) (by rw [tabArr_size]; omega) (tabArr 16) (NB.ext_all _ _ (tabArr_size 16)) ?_)
        | (with_reducible refine NB.wpList_store_agg rfl 129 (.tmp 0) (.tmp 22) rfl rfl w.heap.size 0 (tabArr 16) rfl rfl 129 _ (heap_alloc2_old _ _ _) (by rw [tabArr_size]; kernel_rfl) (by simp [tabArr_size]) (tabArr_one 16) ?_))
      refine bodyPost_ret (results_cell_row (g := w.heap.size) (t := 129) (cs := tabArr 16) (fr := (0, 0)) rfl _ _ (d := _) rfl ?_ Try.underlying129 rfl (by rw [tabArr_size]; kernel_rfl)) rfl ⟨rfl, ?_⟩
      · rw [setRow_heap _ _ _ _ 129 (0, 0) (heap_alloc2_old _ _ _), NB.splice_all _ _ (by simp [tabArr_size])]
      · exact below_setRow (((Below.refl _ _).alloc (Nat.le_refl _) _).alloc (by simp) _) (Nat.le_refl _) _


theorem crcSteps_lt (n z : Nat) (h : z < 4294967296) : crcSteps n z < 4294967296 := by
  induction n with
  | zero => exact h
  | succ n ih => exact crcStep_lt _ ih
theorem nib_lt (x n : Nat) (h : x < 4294967296) (hn : n < 16) : nib x n < 4294967296 := by
  unfold nib
  have h2 : (x % 16) ^^^ n < 16 := Nat.xor_lt_two_pow (n := 4) (by omega) hn
  exact Nat.xor_lt_two_pow (n := 32) (by omega) (crcSteps_lt 4 _ (by omega))
theorem nibs (y : Nat) (v : UInt8) (h : y < 4294967296) :
    bits .and .u8 (v.toNat : Int) 15 = ((v.toNat % 16 : Nat) : Int) ∧
    bits .xor .u8 ((y : Int) % 16) ((v.toNat % 16 : Nat) : Int) = (((y % 16) ^^^ (v.toNat % 16) : Nat) : Int) ∧
    (y % 16) ^^^ (v.toNat % 16) < 16 ∧
    bits .xor .u32 ((y : Int) / 16) ((crcSteps 4 ((y % 16) ^^^ (v.toNat % 16)) : Nat) : Int) = ((nib y (v.toNat % 16) : Nat) : Int) ∧
    nib y (v.toNat % 16) < 4294967296 ∧
    bits .xor .u8 ((nib y (v.toNat % 16) : Int) % 16) ((v.toNat : Int) / 16) = (((nib y (v.toNat % 16) % 16) ^^^ (v.toNat / 16) : Nat) : Int) ∧
    (nib y (v.toNat % 16) % 16) ^^^ (v.toNat / 16) < 16 ∧
    bits .xor .u32 ((nib y (v.toNat % 16) : Int) / 16) ((crcSteps 4 ((nib y (v.toNat % 16) % 16) ^^^ (v.toNat / 16)) : Nat) : Int) = ((nib (nib y (v.toNat % 16)) (v.toNat / 16) : Nat) : Int) ∧
    nib (nib y (v.toNat % 16)) (v.toNat / 16) < 4294967296 ∧ nib (nib y (v.toNat % 16)) (v.toNat / 16) = crcB y v := by
  have hv : v.toNat < 256 := v.toNat_lt
  have hy1 := nib_lt y (v.toNat % 16) h (by omega)
  have a1 : (y % 16) ^^^ (v.toNat % 16) < 16 := Nat.xor_lt_two_pow (n := 4) (by omega) (by omega)
  have a2 : (nib y (v.toNat % 16) % 16) ^^^ (v.toNat / 16) < 16 := Nat.xor_lt_two_pow (n := 4) (by omega) (by omega)
  have s1 := crcSteps_lt 4 ((y % 16) ^^^ (v.toNat % 16)) (by omega)
  have s2 := crcSteps_lt 4 ((nib y (v.toNat % 16) % 16) ^^^ (v.toNat / 16)) (by omega)
  refine ⟨?_, ?_, a1, ?_, hy1, ?_, a2, ?_, nib_lt _ _ hy1 (by omega), rfl⟩
  · rw [show bits .and .u8 (v.toNat : Int) 15 = ((v.toNat &&& 15 : Nat) : Int) from u8_and_nat _ 15 hv (by omega), nat_mask4]
  · rw [show ((y : Int) % 16) = ((y % 16 : Nat) : Int) by omega, u8_xor_nat _ _ (by omega) (by omega)]
  · rw [show ((y : Int) / 16) = ((y / 16 : Nat) : Int) by omega, u32_xor_nat _ _ (by omega) s1]; rfl
  · rw [show ((nib y (v.toNat % 16) : Int) % 16) = ((nib y (v.toNat % 16) % 16 : Nat) : Int) by omega, show ((v.toNat : Int) / 16) = ((v.toNat / 16 : Nat) : Int) by omega, u8_xor_nat _ _ (by omega) (by omega)]
  · rw [show ((nib y (v.toNat % 16) : Int) / 16) = ((nib y (v.toNat % 16) / 16 : Nat) : Int) by omega, u32_xor_nat _ _ (by omega) s2]; rfl
theorem tab_cell {w : World} {T : Nat} (hT : w.heap[T]? = some (Obj.cells (tabArr 16) 129 (0, 0))) (j : Nat) (hj : j < 16) :
    w.cell? ⟨T, j, none⟩ = some (.int .u32 (crcSteps 4 j : Nat)) := by
  rw [cell_of_row w T j _ 129 (0, 0) hT]
  simp [tabArr, hj]
theorem crcL_snoc (z : Nat) (bs : List UInt8) (q : Nat) (h : q < bs.length) : crcB (crcL z (bs.take q)) (bs.getD q 0) = crcL z (bs.take (q+1)) := by
  unfold crcL
  rw [List.take_succ_eq_append_getElem h, List.foldl_append]
  simp only [List.foldl_cons, List.foldl_nil, List.getD, List.getElem?_eq_getElem h, Option.getD_some]
theorem crcR_snoc (z : Nat) (l : List (List UInt8)) (k : Nat) (h : k < l.length) {n : Nat} (hn : (l.getD k []).length = n) : crcL (crcR z (l.take k)) ((l.getD k []).take n) = crcR z (l.take (k+1)) := by
  unfold crcR
  rw [List.take_of_length_le (l := l.getD k []) (by omega), List.take_succ_eq_append_getElem h, List.foldl_append]
  simp only [List.foldl_cons, List.foldl_nil, List.getD, List.getElem?_eq_getElem h, Option.getD_some]
theorem not_u32 (z : Nat) (h : z < 4294967296) : bits .xor .u32 IntKind.u32.max (z : Int) = ((4294967295 - z : Nat) : Int) := by
  have e : IntKind.u32.max = ((4294967295 : Nat) : Int) := by decide
  rw [e, u32_xor_nat _ _ (by omega) h]
  have := congrArg BitVec.toNat (BitVec.allOnes_xor (x := BitVec.ofNat 32 z))
  rw [BitVec.toNat_xor, BitVec.toNat_not, BitVec.toNat_allOnes, BitVec.toNat_ofNat, Nat.mod_eq_of_lt h] at this
  exact congrArg Nat.cast this

theorem sumR_lt (l : List (List UInt8)) : sumR l < 4294967296 := by unfold sumR; omega

set_option maxHeartbeats 400000 in
theorem of_any (w : World) (a : Option Addr) (n c : Nat) (l : List (List UInt8)) (h : NB.RdBB w a n c l) :
    Calls Try.prog 74 #[.slice a n c] w fun e w' => e = .returned (.int .u32 (sumR l : Int)) ∧ Below w.heap.size w w' := by
  have hbd := h.bound
  go_enter Try.func74, Try.ntmps74
  go_wp2_with (first
    | (go_at_call 75; refine (table_any _).mono ?_; rintro e w1 ⟨rfl, hb1⟩)
    | (with_reducible refine NB.wpList_store_agg_any (o := ⟨none, _, _, _, _, _⟩) rfl 129 (.tmp 3) (.tmp 11) rfl rfl w1.heap.size 0 (tabArr 16) rfl rfl 129 _ (heap_alloc_new _ _) (by rw [tabArr_size]; kernel_rfl) (by simp [tabArr_size]) (tabArr_one 16) (tabArr 16) (NB.splice_all _ _ (by simp [tabArr_size])) ?_))
  intro w2 hg2 hT hs2
  have hB : Below w.heap.size w w2 := (hb1.alloc hb1.size _).grown hg2 (by have := hb1.size; simp; omega) (by rintro k hk; cases hk; exact hb1.size)
  have h2 := h.below hB
  generalize hT0 : w1.heap.size = T at *
  have HT0 := Go.Lib.hid hT0; clear hT0
  clear hg2 hs2
  go_wp2
  go_loop [4, 14] (fun x i => ∃ k : Nat, k ≤ n ∧ i = .int .i64 k ∧ ∃ z : Nat, z = crcR 4294967295 (l.take k) ∧ z < 4294967296 ∧ x = .int .u32 z) (fun _ i => n - (intOf i).toNat)
  case atStart => exact ⟨0, by omega, rfl, 4294967295, rfl, by omega, rfl⟩
  case round =>
    obtain ⟨k, hk, rfl, z, hz, hzl, rfl⟩ := hrel
    have HZ := Go.Lib.hid hz; clear hz
    by_cases hkn : k < n
    · obtain ⟨b, o, rfl, hcell⟩ := h2.pos (by omega)
      obtain ⟨ai, ni, ci, hc, hr⟩ := hcell k hkn
      have hrb := hr.bound
      clear hcell
      go_wp2
      go_loop [4, 20] (fun x i => ∃ q : Nat, q ≤ ni ∧ i = .int .i64 q ∧ ∃ y : Nat, y = crcL z ((l.getD k []).take q) ∧ y < 4294967296 ∧ x = .int .u32 y) (fun _ i => ni - (intOf i).toNat)
      case atStart => exact ⟨0, by omega, rfl, z, rfl, by omega, rfl⟩
      case round =>
        obtain ⟨q, hq, rfl, y, hy, hyl, rfl⟩ := hrel
        have HY := Go.Lib.hid hy; clear hy
        by_cases hqn : q < ni
        · obtain ⟨b', o', rfl, hcell⟩ := NB.RdB.at hr (by omega)
          have hc' := hcell q hqn
          clear hcell
          generalize hv : (l.getD k []).getD q 0 = v at hc'
          have HV := Go.Lib.hid hv; clear hv
          have i0 : ∀ x y w, (Instr.index 131 (.agg #[x, y]) (.int .i64 0)).run Try.prog w = .ok x w := fun _ _ _ => by kernel_rfl
          have i1 : ∀ x y w, (Instr.index 131 (.agg #[x, y]) (.int .i64 1)).run Try.prog w = .ok y w := fun _ _ _ => by kernel_rfl
          obtain ⟨e1, e2, hj1, e3, hy1, e4, hj2, e5, hy2, hfin⟩ := nibs y v hyl
          generalize hn1 : (y % 16) ^^^ (v.toNat % 16) = j1 at *
          generalize hn2 : nib y (v.toNat % 16) = y1 at *
          generalize hn0 : v.toNat % 16 = lo at *
          generalize hn3 : (y1 % 16) ^^^ (v.toNat / 16) = j2 at *
          generalize hn4 : nib y1 (v.toNat / 16) = y2 at *
          have HF := Go.Lib.hid hfin; clear hfin hn0 hn1 hn2 hn3 hn4
          have c1 := tab_cell hT j1 hj1
          have c2 := tab_cell hT j2 hj2
          generalize crcSteps 4 j1 = s1 at *
          generalize crcSteps 4 j2 = s2 at *
          go_wp2
          refine wp_loop_rounds 3 ?_
          iterate 3 (rw [rounds_succ]; go_wp2)
          go_round
          case rel => exact ⟨q+1, by omega, by go_num, y2, by rw [HF.out, HY.out, ← HV.out]; exact crcL_snoc _ _ _ (by rw [NB.RdB.size hr]; exact hqn), hy2, rfl⟩
          case measure => simp [intOf]; omega
        · obtain rfl : q = ni := by omega
          go_wp2
          go_round
          case rel => exact ⟨k+1, by omega, by go_num, y, by rw [HY.out, HZ.out]; exact crcR_snoc _ _ _ (by rw [h2.len]; exact hkn) (NB.RdB.size hr), hyl, rfl⟩
          case measure => simp [intOf]; omega
    · obtain rfl : k = n := by omega
      have e1 := not_u32 z hzl
      have hz := HZ.out
      rw [List.take_of_length_le (by rw [h2.len]; omega)] at hz
      generalize hr : 4294967295 - z = r at *
      have HR : RowKit.Hid (r = sumR l) := Go.Lib.hid (by unfold sumR; rw [← hz, hr])
      clear hz hr
      go_wp2
      go_ret
      exact ⟨by rw [← HR.out]; rfl, hB⟩
def four (x : Nat) : List UInt8 := [UInt8.ofNat (x / 16777216), UInt8.ofNat (x / 65536), UInt8.ofNat (x / 256), UInt8.ofNat x]
def sealedL (bs : List UInt8) : List UInt8 := bs ++ four (sumR [bs])

theorem four_cells (s : Nat) (h : s < 4294967296) :
    [Value.int .u8 ((s : Int) / 16777216), .int .u8 ((s : Int) / 65536 % 256), .int .u8 ((s : Int) / 256 % 256), .int .u8 ((s : Int) % 256)] = (four s).map NB.u8v := by
  have e : ∀ x : Nat, ((UInt8.ofNat x).toNat : Int) = (x : Int) % 256 := fun x => by simp
  simp only [four, List.map_cons, List.map_nil, NB.u8v, e]
  rw [show ((s / 16777216 : Nat) : Int) % 256 = (s : Int) / 16777216 by omega, show ((s / 65536 : Nat) : Int) % 256 = (s : Int) / 65536 % 256 by omega, show ((s / 256 : Nat) : Int) % 256 = (s : Int) / 256 % 256 by omega]

set_option maxHeartbeats 400000 in
theorem sealed_any (w : World) (a : Option Addr) (n c : Nat) (bs : List UInt8) (h : NB.RdB w a n c bs) (hl : n + 4 ≤ 140737488355328) :
    Calls Try.prog 71 #[.slice a n c] w (NB.FreshB 5 w (sealedL bs)) := by
  obtain rfl : n = bs.length := (NB.RdB.size h).symm
  have hbd := Rd.bound h
  have hx := sumR_lt [bs]
  have hfc := four_cells (sumR [bs]) hx
  go_enter Try.func71, Try.ntmps71
  go_wp2_with (first
    | (go_at_call 74; refine (of_any _ _ _ _ [bs] (NB.rdBB_one 22 h rfl)).mono ?_; rintro e w1 ⟨rfl, hb1⟩; have hB1 : Below w.heap.size w w1 := ((Below.refl _ _).alloc (Nat.le_refl _) _).trans (hb1.mono (by simp)))
    | (go_at_call 44; refine (clone_any w1 a _ c bs (Rd.below h hB1) (by omega)).mono ?_; rintro e w2 ⟨a2, c2, rfl, ho2, hb2⟩)
    | (at_builtin; with_reducible refine NB.wpList_append_rd rfl (.tmp 8) (.tmp 20) 22 rfl w1.heap.size slTB (.slice a2 bs.length c2) bs.length (bs.map NB.u8v) rfl (ho2.alloc _) (some ⟨w2.heap.size, 0, none⟩) 4 4 _ rfl (NB.rd_new w2 _ 5 4 rfl (by unfold maxLen; omega) rfl) ?_ ?_ ?_ ?_ ?_))
  case refine_1 => intro x _; rfl
  case refine_2 => omega
  case refine_3 => unfold maxLen; omega
  case refine_4 => have := hb2.size; simp; omega
  intro v' w' ho hg
  have hB2 : Below w.heap.size w w2 := hB1.trans (hb2.mono hB1.size)
  have hown := ho2.lt
  have hB3 : Below w.heap.size w w' := (hB2.alloc hB2.size _).grown hg (by have := hB2.size; simp; omega) (fun k hk => Nat.le_trans hB1.size (hown k hk).1)
  have ho' := NB.own_mono ho hB1.size
  clear hg ho
  go_wp2
  go_ret
  exact NB.freshB_mk ho' (by simp [sealedL]) hB3

def rightL (bs : List UInt8) : Bool := decide (4 ≤ bs.length) && (sealedL (bs.take (bs.length - 4)) == bs)

theorem rdB_front {w : World} {a : Option Addr} {n c : Nat} {bs : List UInt8} (h : NB.RdB w a n c bs) (k : Nat) (hk : k ≤ n) : NB.RdB w a k k (bs.take k) := by
  have := Rd.front h k hk
  rw [Nat.mul_one, ← List.map_take] at this
  exact this

set_option maxHeartbeats 400000 in
theorem right_any (w : World) (a : Option Addr) (n c : Nat) (bs : List UInt8) (h : NB.RdB w a n c bs) (hl : n ≤ 140737488355328) :
    Calls Try.prog 73 #[.slice a n c] w fun e w' => e = .returned (.bool (rightL bs)) ∧ Below w.heap.size w w' := by
  obtain rfl : n = bs.length := (NB.RdB.size h).symm
  have hbd := Rd.bound h
  have hle := h.le
  by_cases h4 : 4 ≤ bs.length
  · have e0 : ((bs.length : Int) - 4) = ((bs.length - 4 : Nat) : Int) := by omega
    obtain ⟨k, hk⟩ : ∃ k, k = bs.length - 4 := ⟨_, rfl⟩
    rw [← hk] at e0
    have hkl : k ≤ bs.length := by omega
    have HK := Go.Lib.hid hk; clear hk
    go_enter Try.func73, Try.ntmps73
    go_wp2_with (first
      | (go_at_call 71; refine (sealed_any w a k k (bs.take k) (rdB_front h k hkl) (by omega)).mono ?_; rintro e w1 ⟨a2, c2, rfl, ho2, hb2⟩; obtain ⟨a3, c3, e3, hr3, hf3, _⟩ := NB.rd_of_own ho2; cases e3)
      | (go_at_call 28; refine (equal_any w1 _ a _ _ _ c _ bs hr3 (Rd.below h hb2)).mono ?_; rintro e w2 ⟨rfl, hb3⟩))
    go_ret
    refine ⟨?_, hb2.trans (hb3.mono hb2.size)⟩
    have := HK.out
    simp [rightL, h4, this]
  · have hn : ((bs.length : Int) - 4) < 0 := by omega
    go_enter Try.func73, Try.ntmps73
    go_wp2
    go_ret
    exact ⟨by simp [rightL, h4], Below.refl _ _⟩
end Go.Proofs.Ytjfidhjnbcmhfaa
