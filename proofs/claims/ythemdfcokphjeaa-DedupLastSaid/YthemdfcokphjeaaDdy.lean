/- The walk for the statement DedupLast. -/
import Derived.Test.YthemdfcokphjeaaDdx
namespace Go.Proofs.Ythemdfcokphjeaa
open Go.RowKit
open Go.NB (Rd Kp Stp Off Dis Ent dknown dat dlast dlstep B64 oneB dB Rw)

theorem and3 (y : UInt8) : bits .and .u8 (y.toNat : Int) 3 = ((y.toNat % 4 : Nat) : Int) := by
  have h : bits .and .u8 (y.toNat : Int) 3 = (y.toNat : Int) % 4 := bits_mask .u8 8 (by decide) wraps_u8 2 (by decide) _ (by omega) (by have := y.toNat_lt; omega)
  rw [h]; omega

/-- A client's greatest number, and one; nought: none. -/
def topOf (l : List Ent) (j : Nat) : Nat := if (dlast l j).2 then (dlast l j).1 + 1 else 0
structure Tops (l : List Ent) (fl : List Nat) : Prop where
  len : fl.length = 4
  at_ : ∀ j, j < 4 → fl.getD j 0 = topOf l j
  ub : ∀ j, j < 4 → fl.getD j 0 ≤ 64
theorem tops_start : Tops [] [0, 0, 0, 0] := by
  refine ⟨rfl, fun j hj => ?_, fun j hj => ?_⟩ <;>
  · have : j = 0 ∨ j = 1 ∨ j = 2 ∨ j = 3 := by omega
    rcases this with rfl | rfl | rfl | rfl <;> decide
theorem topOf_snoc (l : List Ent) (c s : Nat) (z : Int) (j : Nat) : topOf (l ++ [(c, s, z)]) j = if c = j then max (topOf l j) (s + 1) else topOf l j := by
  unfold topOf
  rw [NB.dlast_snoc]
  unfold dlstep
  by_cases h : c = j
  · simp only [h, if_true]
    have hno := (NB.dlast_is l j).no
    cases hb : (dlast l j).2 with
    | true => simp
    | false => have := hno hb; simp [this]
  · simp [h]
theorem tops_step {l : List Ent} {fl : List Nat} (h : Tops l fl) {c s : Nat} (z : Nat) (hc : c < 4) (hs : s < 64) : Tops (dnote l c s (z : Int)).1 (if fl.getD c 0 < s + 1 then fl.set c (s + 1) else fl) := by
  obtain ⟨hl, ha, hu⟩ := h
  cases hk : dknown l c s with
  | true =>
    rw [dnote_old hk]
    obtain ⟨x, hx, hh⟩ := List.any_eq_true.1 hk
    obtain ⟨h1, h2⟩ := (NB.dhit_iff _ _ _).1 hh
    have := (NB.dlast_is l c).up x hx h1
    have h3 : ¬ fl.getD c 0 < s + 1 := by
      rw [ha c hc]
      unfold topOf
      rw [this.2]
      simp only [if_true]
      omega
    rw [if_neg h3]
    exact ⟨hl, ha, hu⟩
  | false =>
    rw [dnote_new hk]
    have key : ∀ j, j < 4 → (if fl.getD c 0 < s + 1 then fl.set c (s + 1) else fl).getD j 0 = if c = j then max (fl.getD j 0) (s + 1) else fl.getD j 0 := fun j hj => by
      by_cases hcj : c = j
      · subst hcj
        simp only [if_true]
        split
        · rename_i hlt
          rw [Nat.max_eq_right (by omega)]
          simp [List.getD, hl, hc]
        · rw [Nat.max_eq_left (by omega)]
      · rw [if_neg hcj]
        split
        · simp only [List.getD]; rw [List.getElem?_set_ne hcj]
        · rfl
    refine ⟨?_, fun j hj => ?_, fun j hj => ?_⟩
    · split
      · simpa using hl
      · exact hl
    · rw [key j hj, topOf_snoc, ha j hj]
    · rw [key j hj]
      have := hu j hj
      split <;> omega

theorem dnote_len2 (l : List Ent) (c s : Nat) (at_ : Int) : (dnote l c s at_).1.length ≤ l.length + 1 := by
  unfold dnote
  split
  · simp
  · split <;> simp

set_option maxRecDepth 100000 in
set_option maxHeartbeats 4000000 in
theorem law_dlast (w : World) (a : Option Addr) (n c : Nat) (b : List UInt8) (h : NB.RdB w a n c b) :
    Calls Try.prog 6 #[.slice a n c] w fun e w' => e = .returned (.bool true) ∧ Below w.heap.size w w' := by
  have hbd := Rd.bound h
  have hsz := NB.RdB.size h
  by_cases hn : n ≤ 80
  · have hnz : ¬ (80 : Int) < (n : Int) := by omega
    obtain ⟨i, hi, hz, hsi, hby⟩ := slTI.hi
    go_enter Try.func6, Try.ntmps6
    go_wp2_with fail
    refine (awake_any _).mono ?_
    rintro e w1 ⟨rfl, hb1⟩
    go_wp2_with fail
    refine (tnew_any _).mono ?_
    rintro e w2 ⟨p, F, rfl, hT2, hb2⟩
    have B2 := NB.bel hb1 hb2 hb1.size
    have hbase := hb1.size
    clear hb1 hb2
    generalize w1.heap.size = base at *
    go_wp2_with (at_make; refine wpList_make_full w2 rfl (.const (.int .i64 4)) (.const (.int .i64 4)) 43 rfl w2.heap.size 3 i (.int .i64 0) 1 slTI.ht hi hz hsi .i64 .i64 4 4 4 rfl rfl rfl rfl (by rw [hby]; omega) (by unfold maxLen; omega) (Nat.le_refl _) ?_; intro w3 ho3 hg3)
    have hb3 : Below w2.heap.size w2 w3 := (Below.refl _ w2).grown hg3 (Nat.le_refl _) (by rintro k hk; cases hk)
    have hT3 := hT2.below hb3
    have B3 := NB.bel B2 hb3 B2.size
    have hR3 := NB.rw_of_own ho3 (by omega)
    have hGF : ¬ F w2.heap.size := fun hf => by have := (hT2.foot _ hf).2; omega
    have hGw : w.heap.size ≤ w2.heap.size := B2.size
    have hm := made_is 4
    simp only [Value.cells] at hR3
    rw [hm] at hR3
    clear hT2 B2 hb3 ho3 hg3 hm
    generalize w2.heap.size = G at *
    have hO := tops_start
    have hrep : List.replicate 4 0 = [0, 0, 0, 0] := rfl
    rw [hrep] at hR3
    generalize ([0, 0, 0, 0] : List Nat) = fl0 at *
    clear hrep
    go_wp2_with fail
    go_loopw [6] (fun i wr => ∃ (k : Nat) (l : List Ent) (fl : List Nat), k ≤ n ∧ i = .int .i64 (k : Int) ∧ HasT wr base p F l ∧ Rw wr G (isL fl) 3 ∧ Tops l fl ∧ l.length ≤ k ∧ Below w.heap.size w wr) (fun i _ => n - (intOf i).toNat)
    case atStart => exact ⟨0, [], fl0, by omega, rfl, hT3, hR3, hO, by simp, B3⟩
    case round =>
      clear hT3 hR3 hO B3
      obtain ⟨k, l, fl, hk, rfl, hT, hR, hO, hll, hB⟩ := hrel
      by_cases hlt : k < n
      · have hki : (k : Int) < (n : Int) := by omega
        obtain ⟨b3, o3, ea, hc3⟩ := NB.RdB.at h (by omega)
        subst ea
        have hc := (hB.cell (p := ⟨b3, o3 + k, none⟩) (World.block_lt_of_cell? w _ (hc3 k hlt))).trans (hc3 k hlt)
        clear hc3
        generalize b.getD k 0 = y at *
        have hy := y.toNat_lt
        obtain ⟨C, hC, hya⟩ : ∃ C : Nat, C < 4 ∧ bits .and .u8 (y.toNat : Int) 3 = (C : Int) := ⟨y.toNat % 4, by omega, and3 y⟩
        obtain ⟨S, hS, hSy⟩ : ∃ S : Nat, S < 64 ∧ (y.toNat : Int) / 4 = (S : Int) := ⟨y.toNat / 4, by omega, by omega⟩
        have hC64 : B64 C := by unfold B64; omega
        have hS64 : B64 S := by unfold B64; omega
        have hkw : (Lit.int .i64 (k : Int)).wf = true := WalkArith.wf_i64 (by omega)
        have hst := tops_step hO k hC hS
        have hlen2 := dnote_len2 l C S (k : Int)
        have ctn := fun w h => note_any w base p F l C S (k : Int) h hC64 hS64 hkw (by omega)
        generalize dnote l C S (k : Int) = R at *
        obtain ⟨l2, f2⟩ := R
        have CTN := Go.Lib.hid ctn; have HST := Go.Lib.hid hst
        clear ctn hst hkw hC64 hS64
        go_wp2_with fail
        refine (CTN.out _ hT).mono ?_
        rintro e w4 ⟨rfl, hT4, hS4⟩
        have hR4 := hR.keep hS4.kp hGF
        have B4 := NB.bel hB (hT.low hS4) hbase
        have hCf : C < fl.length := by rw [hO.len]; omega
        have c4 := hR4.cell C _ (is_at fl C hCf)
        have f4 := hR4.free C
        have hub := hO.ub C hC
        have hset := is_set fl C (S + 1)
        clear hT hR hB hS4 hc hO CTN
        have HST2 := HST.out
        generalize hv : fl.getD C 0 = v at *
        have HV := Go.Lib.hid hv; clear hv HST
        have HSET := Go.Lib.hid hset; clear hset
        by_cases hvs : v < S + 1
        case' pos =>
          rw [if_pos hvs] at HST2
          have hvi : (v : Int) < (S : Int) + 1 := by omega
          have HST := Go.Lib.hid HST2; clear HST2 hvs
          go_wp2_with fail
          have hR7 := hR4.set C (.int .i64 (((S + 1 : Nat)) : Int))
          rw [HSET.out] at hR7
          have B7 := B4.setCell (p := ⟨G, C, none⟩) hGw (.int .i64 (((S + 1 : Nat)) : Int))
          have K7 : Kp (fun k => k = G) w4 (w4.setCell ⟨G, C, none⟩ (.int .i64 (((S + 1 : Nat)) : Int))) := (Kp.refl (fun k => k = G) w4).setCell (x := ⟨G, C, none⟩) (.inl rfl) (.int .i64 (((S + 1 : Nat)) : Int))
          have hT7 := hT4.keep K7 (fun j hj e => hGF (by rw [← e]; exact hj))
          clear hR4 B4 K7 hT4 c4 f4
          rw [show ((S + 1 : Nat) : Int) = (S : Int) + 1 by omega] at hR7 B7 hT7
          generalize w4.setCell ⟨G, C, none⟩ (.int .i64 ((S : Int) + 1)) = w7 at *
          generalize fl.set C (S + 1) = fl2 at *
        case' neg =>
          rw [if_neg hvs] at HST2
          have hvi : ¬ (v : Int) < (S : Int) + 1 := by omega
          have HST := Go.Lib.hid HST2; clear HST2 hvs
          go_wp2_with fail
          have hR7 := hR4
          have B7 := B4
          have hT7 := hT4
          clear hR4 B4 hT4 c4 f4
          generalize w4 = w7 at *
          generalize fl = fl2 at *
        all_goals
          go_loopw [9] (fun j wr => ∃ (q : Nat), q ≤ 4 ∧ j = .int .i64 (q : Int) ∧ HasT wr base p F l2 ∧ Rw wr G (isL fl2) 3 ∧ Below w.heap.size w wr) (fun j _ => 4 - (intOf j).toNat)
          case atStart => exact ⟨0, by omega, rfl, hT7, hR7, B7⟩
          case round =>
            clear hT7 hR7 B7
            obtain ⟨q, hq, rfl, hT, hR, hB⟩ := hrel
            by_cases hq4 : q < 4
            · have hqi : (q : Int) < 4 := by omega
              have hq64 : B64 q := by unfold B64; omega
              go_wp2_with fail
              refine (last_any _ _ _ _ _ q hT hq64).mono ?_
              rintro e w8 ⟨rfl, hb8⟩
              have hT8 := hT.below hb8
              have hR8 := hR.below hb8
              have B8 := NB.bel hB hb8 hB.size
              have hat := HST.out.at_ q hq4
              have hub8 := HST.out.ub q hq4
              have c8 := hR8.cell q _ (is_at fl2 q (by rw [HST.out.len]; omega))
              rw [hat] at c8 hub8
              unfold topOf at c8 hub8
              generalize dlast l2 q = L at *
              obtain ⟨M, B⟩ := L
              clear hT hR hB hb8 hat
              cases B with
              | true =>
                simp only [if_true] at c8 hub8
                rw [show ((M + 1 : Nat) : Int) = (M : Int) + 1 by omega] at c8
                go_wp2_with fail
                go_roundw
                case rel => exact ⟨q + 1, by omega, by go_num, hT8, hR8, B8⟩
                case measure => simp [intOf]; omega
              | false =>
                simp only [Bool.false_eq_true, if_false] at c8
                go_wp2_with fail
                go_roundw
                case rel => exact ⟨q + 1, by omega, by go_num, hT8, hR8, B8⟩
                case measure => simp [intOf]; omega
            · obtain rfl : q = 4 := by omega
              go_wp2_with fail
              go_roundw
              case rel => exact ⟨k + 1, l2, fl2, by omega, by go_num, hT, hR, HST.out, by omega, hB⟩
              case measure => simp [intOf]; omega
      · obtain rfl : k = n := by omega
        clear hT hR hO
        go_wp2_with fail
        go_ret
        exact ⟨rfl, hB⟩
  · have hnz : (80 : Int) < (n : Int) := by omega
    go_enter Try.func6, Try.ntmps6
    go_wp2_with (go_at_call 8; refine (awake_any _).mono ?_; rintro e w1 ⟨rfl, hb1⟩)
    go_ret
    exact ⟨rfl, hb1⟩
end Go.Proofs.Ythemdfcokphjeaa
