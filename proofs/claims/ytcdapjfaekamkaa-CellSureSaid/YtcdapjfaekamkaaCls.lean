/- The walk for the statement CellSure. -/
import Derived.Test.YtcdapjfaekamkaaClw
import Derived.Test.YtcdapjfaekamkaaCelr
namespace Go.Proofs.Ytcdapjfaekamkaa
open Go.RowKit
open Go.NB (Rd Dk Kp Stp Off Dis val Ce footC)

theorem byte_at' {w : World} {a : Option Addr} {n c : Nat} {bs : List UInt8} (h : NB.RdB w a n c bs) (k : Nat) (hk : k < n) :
    ∃ b o, w.cell? ⟨b, o + k, none⟩ = some (.int .u8 ((bs.getD k 0).toNat : Int)) ∧ a = some ⟨b, o, none⟩ := by
  obtain ⟨b, o, e, hc⟩ := NB.RdB.at h (by omega)
  exact ⟨b, o, hc k hk, e⟩
/-- What holds of the disk ahead of each round. -/
structure Sure (D : Dk) (c : Ce) (m : Nat) : Prop where
  calm : Calm D
  len : D.l.length = 2
  z7 : ∀ j, j < 2 → Z7 (D.l.getD j [])
  op : openL 0 D.l = c
  top : c.top ≤ m
  b : c.b.length ≤ 43
theorem Sure.turn {D : Dk} {c : Ce} {m : Nat} (h : Sure D c m) : c.turn ≤ c.top := by rw [← h.op]; exact pair_le _ _ _
theorem sure_0 : Sure (Dk.fresh 2) (zeroC 0) 0 where
  calm := calm_fresh 2
  len := rfl
  z7 := fun j hj => by
    have : j = 0 ∨ j = 1 := by omega
    rcases this with rfl | rfl <;> exact z7_zero
  op := (sits_fresh 0 2 (by omega)).op.symm
  top := Nat.le_refl _
  b := by decide
set_option maxRecDepth 100000 in
set_option maxHeartbeats 4000000 in
theorem law_sure (w : World) (a : Option Addr) (n c0 : Nat) (l : List (List UInt8)) (a' : Option Addr) (n' c' : Nat) (st : List UInt8) (a2 : Option Addr) (n2 c2 : Nat) (pl : List (List UInt8)) (h : NB.RdBB w a n c0 l) (h' : NB.RdB w a' n' c' st) (h2 : NB.RdBB w a2 n2 c2 pl) :
    Calls Try.prog 6 #[.slice a n c0, .slice a' n' c', .slice a2 n2 c2] w fun e w' => e = .returned (.bool true) ∧ Below w.heap.size w w' := by
  have hbd := NB.RdBB.bound h
  have hbd' := Rd.bound h'
  have hbd2 := NB.RdBB.bound h2
  by_cases h20 : 20 < n
  · have h20i : (20 : Int) < (n : Int) := by omega
    go_enter Try.func6, Try.ntmps6
    go_wp2_with (first
      | (go_at_call 8; refine (awake_any _).mono ?_; rintro e w1 ⟨rfl, hb1⟩))
    go_ret
    exact ⟨rfl, hb1⟩
  have h20i : ¬ (20 : Int) < (n : Int) := by omega
  by_cases hnn : n' < n
  · have hnni : (n' : Int) < (n : Int) := by omega
    go_enter Try.func6, Try.ntmps6
    go_wp2_with (first
      | (go_at_call 8; refine (awake_any _).mono ?_; rintro e w1 ⟨rfl, hb1⟩))
    go_ret
    exact ⟨rfl, hb1⟩
  have hnni : ¬ (n' : Int) < (n : Int) := by omega
  by_cases hn2 : n2 < n
  · have hn2i : (n2 : Int) < (n : Int) := by omega
    go_enter Try.func6, Try.ntmps6
    go_wp2_with (first
      | (go_at_call 8; refine (awake_any _).mono ?_; rintro e w1 ⟨rfl, hb1⟩))
    go_ret
    exact ⟨rfl, hb1⟩
  have hn2i : ¬ (n2 : Int) < (n : Int) := by omega
  go_enter Try.func6, Try.ntmps6
  go_wp2_with (first
    | (go_at_call 8; refine (awake_any _).mono ?_; rintro e w1 ⟨rfl, hb1⟩)
    | (go_at_call 9; refine (dnew_any _ 2 (by omega) (by omega)).mono ?_; rintro e w2 ⟨p, G, rfl, hD2, hb2⟩; have B2 := bel hb1 hb2 hb1.size))
  have hbase : w.heap.size ≤ w1.heap.size := hb1.size
  go_loopw [10, 11, 12] (fun x y i wr => ∃ (m : Nat) (G : Nat → Prop) (D : Dk) (c : Ce), m ≤ n ∧ x = .string ⟨c.b.toArray⟩ ∧ y = .int .u64 (c.turn : Int) ∧ i = .int .i64 m ∧ HasD wr w1.heap.size p G D ∧ Sure D c m ∧ Below w.heap.size w wr) (fun _ _ i _ => n - (intOf i).toNat)
  case atStart => exact ⟨0, G, Dk.fresh 2, zeroC 0, by omega, rfl, rfl, rfl, hD2, sure_0, B2⟩
  case round =>
    clear hD2 B2 hb2
    obtain ⟨m, G, D, c, hm, rfl, rfl, rfl, hD, hS, hB⟩ := hrel
    by_cases hlt : m < n
    · obtain ⟨b3, o3, rfl, hc3⟩ := NB.RdBB.pos h (by omega)
      obtain ⟨ai, ni, ci, q3w, hri0⟩ := hc3 m hlt
      obtain ⟨b5, o5, rfl, hc5⟩ := NB.RdBB.pos h2 (by omega)
      obtain ⟨aj, nj, cj, q5w, hrj0⟩ := hc5 m (by omega)
      clear hc3 hc5
      generalize l.getD m [] = t at *
      generalize pl.getD m [] = pk at *
      have hti := NB.RdB.size hri0
      have hki : (m : Int) < (n : Int) := by omega
      have hki' : (m : Int) < (n' : Int) := by omega
      have hki2 : (m : Int) < (n2 : Int) := by omega
      have q3r := (Below.cell hB (World.block_lt_of_cell? _ _ q3w)).trans q3w
      have q5r := (Below.cell hB (World.block_lt_of_cell? _ _ q5w)).trans q5w
      by_cases h43 : 43 < ni
      · have h43i : (43 : Int) < (ni : Int) := by omega
        go_wp2_with fail
        go_ret
        exact ⟨rfl, hB⟩
      have h43i : ¬ (43 : Int) < (ni : Int) := by omega
      by_cases h9 : 9 < nj
      · have h9i : (9 : Int) < (nj : Int) := by omega
        go_wp2_with fail
        go_ret
        exact ⟨rfl, hB⟩
      have h9i : ¬ (9 : Int) < (nj : Int) := by omega
      obtain ⟨b6, o6, q6w, rfl⟩ := byte_at' h' m (by omega)
      generalize st.getD m 0 = y at *
      obtain ⟨s, hs⟩ : ∃ s, y.toNat % 4 = s := ⟨_, rfl⟩
      have hsi : (y.toNat : Int) % 4 = (s : Int) := by omega
      have hcb := hS.b
      obtain ⟨f, c1, D2, hset, hf20, hw2, hf0, hf1, hcr⟩ := sure_round hS.calm hS.len hS.z7 t (by omega) (by rw [hS.op]; have := hS.top; omega) s
      simp only [hS.op] at hset hf0 hf1 hcr
      have hTn0 : c.turn < c.top + 1 := by have := hS.turn; omega
      have HS := Go.Lib.hid hS
      have HSET := Go.Lib.hid hset
      have HF0 := Go.Lib.hid hf0
      have HF1 := Go.Lib.hid hf1
      have HCR := Go.Lib.hid hcr
      clear hS hset hf0 hf1 hcr
      go_wp2_with fail
      go_at_call 10
      refine (open_calm _ _ p G D 0 hD HS.out.calm (by rw [HS.out.len]; omega)).mono ?_
      rw [HS.out.op]
      rintro e w2 ⟨q, F, rfl, hC2, hD2, hFG, hq, hF, hb2⟩
      have B2 := bel hB hb2 hB.size
      clear hD hB q3r q5r hq hF
      go_wp2_with (first
        | (go_at_call 13; refine (get_any _ _ _ _ _ _ hC2 (by omega)).mono ?_; rintro e w3 ⟨a3, k3, rfl, ho3, hb3⟩; have hr3 := (Off.fresh (F := fun _ => False) ho3 (fun _ h => h.elim)).rd; have hC3 := hC2.below hb3; have hD3 := hD2.below hb3; have B3 := bel B2 hb3 B2.size; have q6r := (Below.cell B3 (World.block_lt_of_cell? _ _ q6w)).trans q6w)
        | (refine NB.wpList_conv_str rfl 23 9 (.tmp 74) rfl Try.underlying23 Try.underlying5 Try.underlying9 a3 _ k3 c.b rfl hr3 ?_)
        | (go_at_call 12; refine (turn_any _ _ _ _ _ _ hC3).mono ?_; rintro e w' ⟨rfl, e2⟩; subst w'))
      go_at_call 16
      refine (dstop_any _ _ p G D (s : Int) (by omega) hD3).mono ?_
      rintro e w4 ⟨rfl, G4, hD4, hS4⟩
      have hC4 := hC3.keep hS4.kp hFG
      have hFG4 : Dis F G4 := hFG.step (fun k hk => (hC3.foot k hk).2) hS4
      have B4 := bel B3 (hS4.low B3.size (fun k hk => Nat.le_trans hbase (hD3.foot k hk).1)) (Nat.le_refl _)
      have q34 := (Below.cell B4 (World.block_lt_of_cell? _ _ q3w)).trans q3w
      have hlow4 : ∀ k, F k ∨ G4 k → w.heap.size ≤ k := fun k hk => hk.elim (fun h => Nat.le_trans hbase (hC4.foot k h).1) (fun h => Nat.le_trans hbase (hD4.foot k h).1)
      have hof4 : Off (fun k => F k ∨ G4 k) w4 ai ni ci t := Off.old hri0 B4 hlow4
      have hat : c.at_ = 0 := by rw [← HS.out.op]; exact (pair_at _ _ _).1
      have htop := HS.out.top
      have hwt : (D.stop (s : Int)).waits.length ≤ 100000 := by show D.waits.length ≤ _; rw [HS.out.calm.waits]; exact Nat.zero_le _
      clear hC3 hD3 hC2 hD2 hFG hS4 B2 B3 q6r hr3 hb2 hb3
      go_wp2_with fail
      go_at_call 11
      refine (set_any _ _ q p F G4 c (D.stop (s : Int)) _ _ _ t hC4 hD4 hFG4 hof4 (by omega) (by omega) (by omega) hwt).mono ?_
      rw [HSET.out]
      rintro e w5 ⟨rfl, F5, G5, hC5, hD5, hFG5, hS5⟩
      replace hC5 : HasC w5 w1.heap.size q p F5 c1 := hC5
      replace hD5 : HasD w5 w1.heap.size p G5 D2 := hD5
      have B5 := bel B4 (hS5.low B4.size hlow4) (Nat.le_refl _)
      clear hC4 hD4 hFG4 hof4 hlow4 hS5 B4 q34 hwt
      have q35 := (Below.cell B5 (World.block_lt_of_cell? _ _ q3w)).trans q3w
      have hri5 := Rd.below hri0 B5
      obtain ⟨T, hT⟩ : ∃ T, c.top + 1 = T := ⟨_, rfl⟩
      rw [hT] at hTn0
      have hTc : ¬ (T : Int) ≤ (c.turn : Int) := by have := HS.out.turn; omega
      have hjoin : True := trivial
      by_cases hf : f = 0
      · subst hf
        have hc1 := HF0.out rfl
        rw [hT] at hc1
        go_wp2_with fail
        refine NB.wp_region_m (by kernel_rfl) ?_
        have hC6 := hC5.below (Below.refl _ w5).drew
        have hD6 := hD5.below (Below.refl _ w5).drew
        have B6 : Below w.heap.size w w5.drew := B5.drew
        have q36 := (Below.cell (Below.refl _ w5).drew (World.block_lt_of_cell? _ _ q35)).trans q35
        have hri6 := Rd.below hri5 (Below.refl _ w5).drew
        clear hC5 hD5 B5 q35 hri5
        generalize w5.drew = w6 at *
        refine NB.any_p 0 rfl (by kernel_rfl) (fun K hK => ?_); go_simp; refine hK _ ?_; clear hK K
        refine NB.any_p 1 rfl (by kernel_rfl) (fun K hK => ?_); go_simp; refine hK _ ?_; clear hK K
        refine NB.any_p 2 rfl (by kernel_rfl) (fun K hK => ?_); go_simp; refine hK _ ?_; clear hK K
        refine NB.any_p 3 rfl (by kernel_rfl) (fun K hK => ?_); go_simp; refine hK _ ?_; clear hK K
        refine NB.any_p 6 rfl (by kernel_rfl) (fun K hK => ?_); go_simp; refine hK _ ?_; clear hK K
        refine NB.any_p 7 rfl (by kernel_rfl) (fun K hK => ?_); go_simp; refine hK _ ?_; clear hK K
        refine NB.any_p 8 rfl (by kernel_rfl) (fun K hK => ?_); go_simp; refine hK _ ?_; clear hK K
        refine NB.any_r 9 rfl (by kernel_rfl) rfl _ (fun w' hw' => NB.run_op_load rfl rfl Try.underlying23 rfl (q36) hw') (fun K hK => ?_); go_simp; refine hK _ ?_; clear hK K
        refine NB.any_r 10 rfl (by kernel_rfl) rfl _ (fun w' hw' => NB.run_op_conv_str Try.underlying23 Try.underlying5 Try.underlying9 rfl rfl (Rd.below (hri6) hw')) (fun K hK => ?_); go_simp; refine hK _ ?_; clear hK K
        refine NB.any_e 4 rfl (by kernel_rfl) (fun K hK => ?_); unfold NB.moves; go_simp; refine (get_any _ _ _ _ _ _ hC6 (by rw [hc1.1]; omega)).mono ?_; rw [hc1.1]; rintro e w7 ⟨a7, k7, rfl, ho7, hb7⟩; refine ⟨_, rfl, hb7, hK _ _ ?_⟩; clear hK K
        have hr7 := (Off.fresh (F := fun _ => False) ho7 (fun _ h => h.elim)).rd
        have hC7 := hC6.below hb7
        have hD7 := hD6.below hb7
        have B7 := bel B6 hb7 B6.size
        clear hC6 hD6 B6
        refine NB.any_r 5 rfl (by kernel_rfl) rfl _ (fun w' hw' => NB.run_op_conv_str Try.underlying23 Try.underlying5 Try.underlying9 rfl rfl (Rd.below (hr7) hw')) (fun K hK => ?_); go_simp; refine hK _ ?_; clear hK K
        refine NB.any_p 11 rfl (by kernel_rfl) (fun K hK => ?_); go_simp; refine hK _ ?_; clear hK K
        refine NB.any_p 12 rfl (by kernel_rfl) (fun K hK => ?_); go_simp; refine hK _ ?_; clear hK K
        refine NB.any_p 13 rfl (by kernel_rfl) (fun K hK => ?_); go_simp; refine hK _ ?_; clear hK K
        refine NB.any_p 15 rfl (by kernel_rfl) (fun K hK => ?_); go_simp; refine hK _ ?_; clear hK K
        refine NB.any_e 14 rfl (by kernel_rfl) (fun K hK => ?_); unfold NB.moves; go_simp; refine (turn_any _ _ _ _ _ _ hC7).mono ?_; rw [hc1.2]; rintro e w' ⟨rfl, e2⟩; subst w'; refine ⟨_, rfl, Below.refl _ _, hK _ _ ?_⟩; clear hK K
        refine NB.any_p 16 rfl (by kernel_rfl) (fun K hK => ?_); go_simp; refine hK _ ?_; clear hK K
        refine NB.any_p 17 rfl (by kernel_rfl) (fun K hK => ?_); go_simp; refine hK _ ?_; clear hK K
        refine NB.any_p 18 rfl (by kernel_rfl) (fun K hK => ?_); go_simp; refine hK _ ?_; clear hK K
        refine NB.any_p 19 rfl (by kernel_rfl) (fun K hK => ?_); go_simp; refine hK _ ?_; clear hK K
        refine NB.any_p 20 rfl (by kernel_rfl) (fun K hK => ?_); go_simp; refine hK _ ?_; clear hK K
        refine NB.any_p 21 rfl (by kernel_rfl) (fun K hK => ?_); go_simp; refine hK _ ?_; clear hK K
        refine NB.any_p 22 rfl (by kernel_rfl) (fun K hK => ?_); go_simp; refine hK _ ?_; clear hK K
        refine NB.any_p 23 rfl (by kernel_rfl) (fun K hK => ?_); go_simp; refine hK _ ?_; clear hK K
        refine NB.any_p 26 rfl (by kernel_rfl) (fun K hK => ?_); go_simp; refine hK _ ?_; clear hK K
        refine NB.any_e 24 rfl (by kernel_rfl) (fun K hK => ?_); go_simp; refine hK _ _ ?_; clear hK K
        refine NB.any_p 25 rfl (by kernel_rfl) (fun K hK => ?_); go_simp; refine hK _ ?_; clear hK K
        refine NB.any_p 27 rfl (by kernel_rfl) (fun K hK => ?_); go_simp; refine hK _ ?_; clear hK K
        refine NB.any_p 28 rfl (by kernel_rfl) (fun K hK => ?_); go_simp; refine hK _ ?_; clear hK K
        refine NB.any_p 29 rfl (by kernel_rfl) (fun K hK => ?_); go_simp; refine hK _ ?_; clear hK K
        refine NB.any_end (by kernel_rfl) ?_
        have q57 := (Below.cell B7 (World.block_lt_of_cell? _ _ q5w)).trans q5w
        have hlow7 : ∀ k, G5 k → w.heap.size ≤ k := fun k hk => Nat.le_trans hbase (hD7.foot k hk).1
        have hofj : Off G5 w7 aj nj cj pk := Off.old hrj0 B7 hlow7
        have hcrk := HCR.out pk
        rw [hT] at hcrk
        clear hr7 hC7 ho7 hb7 q36 hri6 hFG5
        go_wp2_with fail
        go_at_call 17
        refine (dcrash_any _ _ p G5 D2 _ _ _ pk hD7 hofj (by omega)).mono ?_
        rintro e w8 ⟨rfl, G8, hD8, hS8⟩
        have B8 := bel B7 (hS8.low B7.size hlow7) (Nat.le_refl _)
        obtain ⟨k1, k2, k3, k4⟩ := hcrk
        generalize D2.crash pk = D3 at *
        generalize hx : openL 0 D3.l = x at *
        have K1 := Go.Lib.hid k1
        have K2 := Go.Lib.hid k2
        have K3 := Go.Lib.hid k3
        clear k1 k2 k3 hofj hlow7 hS8 q57 B7 hD7
        have hxe : x.top ≤ m + 1 ∧ x.b.length ≤ 43 ∧ c.turn ≤ x.turn := by
          have := HS.out.turn
          rcases k4.what with ⟨j1, j2, j3⟩ | ⟨_, j1, j2, j3, _⟩
          · rw [j1, j2, j3]; omega
          · rw [j1, j2]; omega
        obtain ⟨hxt, hxb, hxu⟩ := hxe
        have hxui : ¬ (x.turn : Int) < (c.turn : Int) := by omega
        have hend : ∀ (w9 : World), HasD w9 w1.heap.size p G8 D3 → Below w.heap.size w w9 → (∃ (m' : Nat) (G : Nat → Prop) (D : Dk) (c : Ce), m' ≤ n ∧ Value.string ⟨x.b.toArray⟩ = .string ⟨c.b.toArray⟩ ∧ Value.int .u64 (x.turn : Int) = .int .u64 (c.turn : Int) ∧ Value.int .i64 ((m : Int) + 1) = .int .i64 m' ∧ HasD w9 w1.heap.size p G D ∧ Sure D c m' ∧ Below w.heap.size w w9) ∧ n - (intOf (Value.int .i64 ((m : Int) + 1))).toNat < n - (intOf (Value.int .i64 (m : Int))).toNat :=
          fun w9 h1 h2 => ⟨⟨m + 1, G8, D3, x, by omega, rfl, rfl, by simp, h1, ⟨K1.out, K2.out, K3.out, hx, hxt, hxb⟩, h2⟩, by simp [intOf]; omega⟩
        go_wp2_with fail
        go_at_call 10
        refine (open_calm _ _ p G8 D3 0 hD8 K1.out (by rw [K2.out]; omega)).mono ?_
        rw [hx]
        rintro e w9 ⟨q9, F9, rfl, hC9, hD9, hFG9, _, _, hb9⟩
        have B9 := bel B8 hb9 B8.size
        clear hD8 B8
        have HX := Go.Lib.hid hx
        clear hx
        have hxbt : x.b = t := by
          rcases k4.what with ⟨j1, _, _⟩ | ⟨j, _⟩
          · exact j1
          · exact (j (by trivial)).elim
        have HXB := Go.Lib.hid hxbt
        clear hxbt k4
        go_wp2_with (first
          | (go_at_call 13; refine (get_any _ _ _ _ _ _ hC9 (by omega)).mono ?_; rw [HXB.out]; rintro e w10 ⟨a10, k10, rfl, ho10, hb10⟩; have hr10 := (Off.fresh (F := fun _ => False) ho10 (fun _ h => h.elim)).rd; rw [hti] at hr10; have hC10 := hC9.below hb10; have hD10 := hD9.below hb10; have B10 := bel B9 hb10 B9.size; have q310 := (Below.cell B10 (World.block_lt_of_cell? _ _ q3w)).trans q3w; have hri10 := Rd.below hri0 B10)
          | (refine NB.wpList_conv_str rfl 23 9 (.tmp 143) rfl Try.underlying23 Try.underlying5 Try.underlying9 a10 _ k10 t rfl hr10 ?_)
          | (refine NB.wpList_conv_str rfl 23 9 (.tmp 152) rfl Try.underlying23 Try.underlying5 Try.underlying9 ai ni ci t rfl hri10 ?_)
          | (refine NB.wpList_conv_str rfl 23 9 (.tmp 161) rfl Try.underlying23 Try.underlying5 Try.underlying9 ai ni ci t rfl hri10 ?_)
          | (go_at_call 12; refine (turn_any _ _ _ _ _ _ hC10).mono ?_; rintro e w' ⟨rfl, e2⟩; subst w'))
        have := hend _ hD10 B10
        rw [HXB.out] at this
        exact this
      · obtain rfl : f = 20 := hf20.resolve_left hf
        have hc1 := HF1.out hf
        go_wp2_with fail
        refine NB.wp_region_m (by kernel_rfl) ?_
        have hC6 := hC5.below (Below.refl _ w5).drew
        have hD6 := hD5.below (Below.refl _ w5).drew
        have B6 : Below w.heap.size w w5.drew := B5.drew
        have q36 := (Below.cell (Below.refl _ w5).drew (World.block_lt_of_cell? _ _ q35)).trans q35
        have hri6 := Rd.below hri5 (Below.refl _ w5).drew
        clear hC5 hD5 B5 q35 hri5
        generalize w5.drew = w6 at *
        refine NB.any_p 0 rfl (by kernel_rfl) (fun K hK => ?_); go_simp; refine hK _ ?_; clear hK K
        refine NB.any_p 1 rfl (by kernel_rfl) (fun K hK => ?_); go_simp; refine hK _ ?_; clear hK K
        refine NB.any_p 2 rfl (by kernel_rfl) (fun K hK => ?_); go_simp; refine hK _ ?_; clear hK K
        refine NB.any_p 3 rfl (by kernel_rfl) (fun K hK => ?_); go_simp; refine hK _ ?_; clear hK K
        refine NB.any_p 6 rfl (by kernel_rfl) (fun K hK => ?_); go_simp; refine hK _ ?_; clear hK K
        refine NB.any_p 7 rfl (by kernel_rfl) (fun K hK => ?_); go_simp; refine hK _ ?_; clear hK K
        refine NB.any_p 8 rfl (by kernel_rfl) (fun K hK => ?_); go_simp; refine hK _ ?_; clear hK K
        refine NB.any_p 9 rfl (by kernel_rfl) (fun K hK => ?_); go_simp; refine hK _ ?_; clear hK K
        refine NB.any_p 10 rfl (by kernel_rfl) (fun K hK => ?_); go_simp; refine hK _ ?_; clear hK K
        refine NB.any_e 4 rfl (by kernel_rfl) (fun K hK => ?_); go_simp; refine hK _ _ ?_; clear hK K
        refine NB.any_p 5 rfl (by kernel_rfl) (fun K hK => ?_); go_simp; refine hK _ ?_; clear hK K
        refine NB.any_p 11 rfl (by kernel_rfl) (fun K hK => ?_); go_simp; refine hK _ ?_; clear hK K
        refine NB.any_p 12 rfl (by kernel_rfl) (fun K hK => ?_); go_simp; refine hK _ ?_; clear hK K
        refine NB.any_p 13 rfl (by kernel_rfl) (fun K hK => ?_); go_simp; refine hK _ ?_; clear hK K
        refine NB.any_p 15 rfl (by kernel_rfl) (fun K hK => ?_); go_simp; refine hK _ ?_; clear hK K
        refine NB.any_e 14 rfl (by kernel_rfl) (fun K hK => ?_); go_simp; refine hK _ _ ?_; clear hK K
        refine NB.any_p 16 rfl (by kernel_rfl) (fun K hK => ?_); go_simp; refine hK _ ?_; clear hK K
        refine NB.any_p 17 rfl (by kernel_rfl) (fun K hK => ?_); go_simp; refine hK _ ?_; clear hK K
        refine NB.any_p 18 rfl (by kernel_rfl) (fun K hK => ?_); go_simp; refine hK _ ?_; clear hK K
        refine NB.any_p 19 rfl (by kernel_rfl) (fun K hK => ?_); go_simp; refine hK _ ?_; clear hK K
        refine NB.any_p 20 rfl (by kernel_rfl) (fun K hK => ?_); go_simp; refine hK _ ?_; clear hK K
        refine NB.any_p 21 rfl (by kernel_rfl) (fun K hK => ?_); go_simp; refine hK _ ?_; clear hK K
        refine NB.any_p 22 rfl (by kernel_rfl) (fun K hK => ?_); go_simp; refine hK _ ?_; clear hK K
        refine NB.any_p 23 rfl (by kernel_rfl) (fun K hK => ?_); go_simp; refine hK _ ?_; clear hK K
        refine NB.any_p 26 rfl (by kernel_rfl) (fun K hK => ?_); go_simp; refine hK _ ?_; clear hK K
        refine NB.any_e 24 rfl (by kernel_rfl) (fun K hK => ?_); unfold NB.moves; go_simp; refine (get_any _ _ _ _ _ _ hC6 (by rw [hc1]; omega)).mono ?_; rw [hc1]; rintro e w7 ⟨a7, k7, rfl, ho7, hb7⟩; refine ⟨_, rfl, hb7, hK _ _ ?_⟩; clear hK K
        have hr7 := (Off.fresh (F := fun _ => False) ho7 (fun _ h => h.elim)).rd
        have hC7 := hC6.below hb7
        have hD7 := hD6.below hb7
        have B7 := bel B6 hb7 B6.size
        clear hC6 hD6 B6
        refine NB.any_r 25 rfl (by kernel_rfl) rfl _ (fun w' hw' => NB.run_op_conv_str Try.underlying23 Try.underlying5 Try.underlying9 rfl rfl (Rd.below (hr7) hw')) (fun K hK => ?_); go_simp; refine hK _ ?_; clear hK K
        refine NB.any_p 27 rfl (by kernel_rfl) (fun K hK => ?_); go_simp; refine hK _ ?_; clear hK K
        refine NB.any_p 28 rfl (by kernel_rfl) (fun K hK => ?_); go_simp; refine hK _ ?_; clear hK K
        refine NB.any_p 29 rfl (by kernel_rfl) (fun K hK => ?_); go_simp; refine hK _ ?_; clear hK K
        refine NB.any_end (by kernel_rfl) ?_
        have q57 := (Below.cell B7 (World.block_lt_of_cell? _ _ q5w)).trans q5w
        have hlow7 : ∀ k, G5 k → w.heap.size ≤ k := fun k hk => Nat.le_trans hbase (hD7.foot k hk).1
        have hofj : Off G5 w7 aj nj cj pk := Off.old hrj0 B7 hlow7
        have hcrk := HCR.out pk
        rw [hT] at hcrk
        clear hr7 hC7 ho7 hb7 q36 hri6 hFG5
        go_wp2_with fail
        go_at_call 17
        refine (dcrash_any _ _ p G5 D2 _ _ _ pk hD7 hofj (by omega)).mono ?_
        rintro e w8 ⟨rfl, G8, hD8, hS8⟩
        have B8 := bel B7 (hS8.low B7.size hlow7) (Nat.le_refl _)
        obtain ⟨k1, k2, k3, k4⟩ := hcrk
        generalize D2.crash pk = D3 at *
        generalize hx : openL 0 D3.l = x at *
        have K1 := Go.Lib.hid k1
        have K2 := Go.Lib.hid k2
        have K3 := Go.Lib.hid k3
        clear k1 k2 k3 hofj hlow7 hS8 q57 B7 hD7
        have hxe : x.top ≤ m + 1 ∧ x.b.length ≤ 43 ∧ c.turn ≤ x.turn := by
          have := HS.out.turn
          rcases k4.what with ⟨j1, j2, j3⟩ | ⟨_, j1, j2, j3, _⟩
          · rw [j1, j2, j3]; omega
          · rw [j1, j2]; omega
        obtain ⟨hxt, hxb, hxu⟩ := hxe
        have hxui : ¬ (x.turn : Int) < (c.turn : Int) := by omega
        have hend : ∀ (w9 : World), HasD w9 w1.heap.size p G8 D3 → Below w.heap.size w w9 → (∃ (m' : Nat) (G : Nat → Prop) (D : Dk) (c : Ce), m' ≤ n ∧ Value.string ⟨x.b.toArray⟩ = .string ⟨c.b.toArray⟩ ∧ Value.int .u64 (x.turn : Int) = .int .u64 (c.turn : Int) ∧ Value.int .i64 ((m : Int) + 1) = .int .i64 m' ∧ HasD w9 w1.heap.size p G D ∧ Sure D c m' ∧ Below w.heap.size w w9) ∧ n - (intOf (Value.int .i64 ((m : Int) + 1))).toNat < n - (intOf (Value.int .i64 (m : Int))).toNat :=
          fun w9 h1 h2 => ⟨⟨m + 1, G8, D3, x, by omega, rfl, rfl, by simp, h1, ⟨K1.out, K2.out, K3.out, hx, hxt, hxb⟩, h2⟩, by simp [intOf]; omega⟩
        go_wp2_with fail
        go_at_call 10
        refine (open_calm _ _ p G8 D3 0 hD8 K1.out (by rw [K2.out]; omega)).mono ?_
        rw [hx]
        rintro e w9 ⟨q9, F9, rfl, hC9, hD9, hFG9, _, _, hb9⟩
        have B9 := bel B8 hb9 B8.size
        clear hD8 B8
        have HX := Go.Lib.hid hx
        clear hx
        by_cases hxbt : x.b = t
        · have HXB := Go.Lib.hid hxbt
          clear hxbt k4
          go_wp2_with (first
            | (go_at_call 13; refine (get_any _ _ _ _ _ _ hC9 (by omega)).mono ?_; rw [HXB.out]; rintro e w10 ⟨a10, k10, rfl, ho10, hb10⟩; have hr10 := (Off.fresh (F := fun _ => False) ho10 (fun _ h => h.elim)).rd; rw [hti] at hr10; have hC10 := hC9.below hb10; have hD10 := hD9.below hb10; have B10 := bel B9 hb10 B9.size; have q310 := (Below.cell B10 (World.block_lt_of_cell? _ _ q3w)).trans q3w; have hri10 := Rd.below hri0 B10)
            | (refine NB.wpList_conv_str rfl 23 9 (.tmp 143) rfl Try.underlying23 Try.underlying5 Try.underlying9 a10 _ k10 t rfl hr10 ?_)
            | (refine NB.wpList_conv_str rfl 23 9 (.tmp 152) rfl Try.underlying23 Try.underlying5 Try.underlying9 ai ni ci t rfl hri10 ?_)
            | (refine NB.wpList_conv_str rfl 23 9 (.tmp 161) rfl Try.underlying23 Try.underlying5 Try.underlying9 ai ni ci t rfl hri10 ?_)
            | (go_at_call 12; refine (turn_any _ _ _ _ _ _ hC10).mono ?_; rintro e w' ⟨rfl, e2⟩; subst w'))
          have := hend _ hD10 B10
          rw [HXB.out] at this
          exact this
        · have hxc : x.b = c.b := by
            rcases k4.what with ⟨j, _, _⟩ | ⟨_, j, _⟩
            · exact absurd j hxbt
            · exact j
          rw [hxc] at hxbt
          have HXB := Go.Lib.hid hxc
          clear hxc k4
          go_wp2_with (first
            | (go_at_call 13; refine (get_any _ _ _ _ _ _ hC9 (by omega)).mono ?_; rw [HXB.out]; rintro e w10 ⟨a10, k10, rfl, ho10, hb10⟩; have hr10 := (Off.fresh (F := fun _ => False) ho10 (fun _ h => h.elim)).rd; have hC10 := hC9.below hb10; have hD10 := hD9.below hb10; have B10 := bel B9 hb10 B9.size; have q310 := (Below.cell B10 (World.block_lt_of_cell? _ _ q3w)).trans q3w; have hri10 := Rd.below hri0 B10)
            | (refine NB.wpList_conv_str rfl 23 9 (.tmp 143) rfl Try.underlying23 Try.underlying5 Try.underlying9 a10 _ k10 c.b rfl hr10 ?_)
            | (refine NB.wpList_conv_str rfl 23 9 (.tmp 152) rfl Try.underlying23 Try.underlying5 Try.underlying9 ai ni ci t rfl hri10 ?_)
            | (refine NB.wpList_conv_str rfl 23 9 (.tmp 161) rfl Try.underlying23 Try.underlying5 Try.underlying9 ai ni ci t rfl hri10 ?_)
            | (go_at_call 12; refine (turn_any _ _ _ _ _ _ hC10).mono ?_; rintro e w' ⟨rfl, e2⟩; subst w'))
          have := hend _ hD10 B10
          rw [HXB.out] at this
          exact this
    · obtain rfl : m = n := by omega
      go_wp2_with (first
        | (go_at_call 10; refine (open_nil _ _).mono ?_; rintro e w2 ⟨rfl, hb2⟩)
        | (go_at_call 11; refine (set_nil _ _).mono ?_; rintro e w' ⟨rfl, e2⟩; subst w')
        | (go_at_call 13; refine (get_nil _).mono ?_; rintro e w' ⟨rfl, e2⟩; subst w')
        | (go_at_call 12; refine (turn_nil _).mono ?_; rintro e w' ⟨rfl, e2⟩; subst w'))
      go_ret
      exact ⟨rfl, bel hB hb2 hB.size⟩
end Go.Proofs.Ytcdapjfaekamkaa
