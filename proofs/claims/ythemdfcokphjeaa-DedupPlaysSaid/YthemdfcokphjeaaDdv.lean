/- The walk for the statement DedupPlays. -/
import Derived.Test.YthemdfcokphjeaaDdw
import Derived.Test.YthemdfcokphjeaaDdt
import Derived.Test.YthemdfcokphjeaaOpens
namespace Go.Proofs.Ythemdfcokphjeaa
open Go.RowKit
open Go.NB (Rd Kp Stp Off Dis Ent dknown dat dlast B64 oneB Rw ActsT)

theorem ps_pos {l : List Ent} (h : l = []) : psL l = [] := by subst h; rfl

theorem dnote_len (l : List Ent) (c s : Nat) (at_ : Int) : (dnote l c s at_).1.length ≤ l.length + 1 := by
  unfold dnote
  split
  · simp
  · split <;> simp

set_option maxRecDepth 100000 in
set_option maxHeartbeats 4000000 in
theorem law_dplays (w : World) (a : Option Addr) (n c : Nat) (h : ActsT w a n c) :
    Calls Try.prog 7 #[.slice a n c] w fun e w' => e = .returned (.bool true) ∧ Below w.heap.size w w' := by
  obtain ⟨hle, hmx, hact⟩ := h
  have hnm : n ≤ 9223372036854775807 := by unfold maxLen at hmx; omega
  have HACT := Go.Lib.hid hact
  clear hact hmx
  have w1b : B64 1 := by unfold B64; omega
  go_enter Try.func7, Try.ntmps7
  go_wp2_with fail
  refine (awake_any _).mono ?_
  rintro e w1 ⟨rfl, hb1⟩
  go_wp2_with fail
  refine (tnew_any _).mono ?_
  rintro e w2 ⟨p, F, rfl, hT2, hb2⟩
  have B2 := NB.bel hb1 hb2 hb1.size
  have hbase := hb1.size
  clear hb1 hb2
  generalize w1.heap.size = base at *
  go_wp2_with fail
  have h0 : RdP w2 none 0 0 [] := Rd.nil_mk
  have hn0 : ∀ b o, (none : Option Addr) = some ⟨b, o, none⟩ → ¬ F b := fun b o e => nomatch e
  go_loopw [5, 6] (fun v i wr => ∃ (k : Nat) (l : List Ent) (x : Option Addr) (cx : Nat), k ≤ n ∧ k ≤ 60 ∧ i = .int .i64 (k : Int) ∧ v = .slice x l.length cx ∧ RdP wr x l.length cx l ∧ HasT wr base p F l ∧ (∀ b o, x = some ⟨b, o, none⟩ → ¬ F b) ∧ l.length ≤ k ∧ Below w.heap.size w wr) (fun _ i _ => n - (intOf i).toNat)
  case atStart => exact ⟨0, [], none, 0, by omega, by omega, rfl, rfl, h0, hT2, hn0, by simp, B2⟩
  case round =>
    clear h0 hn0 hT2 B2
    obtain ⟨k, l, x, cx, hk, hk60, rfl, rfl, hr, hT, hnF, hll, hB⟩ := hrel
    have hbd := Rd.bound hr
    by_cases hlt : k < n ∧ k < 60
    · obtain ⟨hlt1, hlt2⟩ := hlt
      have hki : (k : Int) < (n : Int) := by omega
      have hk6 : (k : Int) < 60 := by omega
      obtain ⟨b, o, C, S, A, rfl, q0, q1, q2, hC, hS, hA⟩ := HACT.out k hlt1
      have lc := fun (b o : Nat) (v : Value) (hc : w.cell? ⟨b, o, none⟩ = some v) => (hB.cell (p := ⟨b, o, none⟩) (World.block_lt_of_cell? w _ hc)).trans hc
      replace q0 := lc _ _ _ q0; replace q1 := lc _ _ _ q1; replace q2 := lc _ _ _ q2
      clear lc
      have ob := oneB wr (.cells #[.int .u64 (C : Int), .int .u64 (S : Int), .int .i64 A] 55)
      have row := NB.rw_new wr [.int .u64 (C : Int), .int .u64 (S : Int), .int .i64 A] 55 rfl
      simp only [List.toArray] at row
      have hT3 := hT.below ob
      have hr3 := Rd.below hr ob
      have B3 := NB.bel hB ob hB.size
      have nrow : ¬ F wr.heap.size := fun hf => by have := (hT.foot _ hf).2; omega
      have hlF : ∀ k, F k → k < wr.heap.size := fun k hf => (hT.foot k hf).2
      clear hT hr hB ob
      go_wp2_with fail
      generalize wr.alloc (.cells #[.int .u64 (C : Int), .int .u64 (S : Int), .int .i64 A] 55) = w3 at *
      generalize wr.heap.size = G at *
      refine (note_any _ _ _ _ _ C S A hT3 hC hS hA (by omega)).mono ?_
      have hdl := dnote_len l C S A
      have hrn := fun w h => rnote_any w x l.length cx l C S A h (by omega)
      generalize dnote l C S A = R at *
      obtain ⟨l2, f2⟩ := R
      rintro e w4 ⟨rfl, hT4, hS4⟩
      simp only at hdl hT4 ⊢
      have row4 := row.keep hS4.kp nrow
      have hr4 := hS4.kp.rd hr3 (fun b o e _ => hnF b o e)
      have B4 := NB.bel B3 (hT3.low hS4) hbase
      have hlF4 := fun k hf => (hT4.foot k hf).2
      clear hT3 hr3 B3 row hS4 hlF
      obtain ⟨c0, c1, c2, _⟩ := NB.rw3 row4
      go_wp2_with fail
      refine (hrn _ hr4).mono ?_
      rintro e w5 ⟨x5, cx5, rfl, hr5, hb5, hx5⟩
      simp only at hr5 ⊢
      have row5 := row4.below hb5
      have hT5 := hT4.below hb5
      have B5 := NB.bel B4 hb5 B4.size
      have hnF5 : ∀ b o, x5 = some ⟨b, o, none⟩ → ¬ F b := by
        rcases hx5 with rfl | h5
        · exact hnF
        · intro b o e hf
          have := h5 b o e
          have := hlF4 _ hf
          omega
      clear hrn hr4 hT4 row4 hb5 B4 hx5 c0 c1 c2 hnF hlF4
      obtain ⟨c0, c1, c2, _⟩ := NB.rw3 row5
      go_wp2_with fail
      refine (find_any _ _ _ _ _ C S hT5 hC hS).mono ?_
      rintro e w' ⟨rfl, e2⟩
      subst w'
      go_wp2_with fail
      refine (rfind_any _ _ _ _ _ C S hr5).mono ?_
      rintro e w' ⟨rfl, e2⟩
      subst w'
      go_wp2_with fail
      refine (last_any _ _ _ _ _ C hT5 hC).mono ?_
      rintro e w6 ⟨rfl, hb6⟩
      have row6 := row5.below hb6
      have hT6 := hT5.below hb6
      have hr6 := Rd.below hr5 hb6
      have B6 := NB.bel B5 hb6 B5.size
      have hbd6 := Rd.bound hr6
      clear hr5 hT5 row5 hb6 B5 c0 c1 c2
      obtain ⟨c0, c1, c2, _⟩ := NB.rw3 row6
      go_wp2_with fail
      refine (rlast_any _ _ _ _ _ C hr6).mono ?_
      rintro e w' ⟨rfl, e2⟩
      subst w'
      generalize dlast l2 C = L at *
      clear c0 c1 c2 row6
      rcases rfind_spec l2 C S with ⟨hk1, k1, E, hf1, hg1, hd1⟩ | ⟨hk1, hf1⟩
      · have hkl : k1 < l2.length := by
          rcases Nat.lt_or_ge k1 l2.length with h1 | h1
          · exact h1
          · rw [List.getElem?_eq_none h1] at hg1; cases hg1
        obtain ⟨b6, o6, X6, Y6, Z6, _, _, z2, rfl, hg6⟩ := RdP.at hr6 k1 hkl
        rw [hg6] at hg1
        cases hg1
        simp only at hd1
        have hki1 : (k1 : Int) < (l2.length : Int) := by omega
        rw [hk1, hf1, hd1]
        clear hk1 hf1 hd1 hg6
        go_wp2_with (go_at_call 16; refine (len_any _ _ _ _ _ hT6).mono ?_; rintro e w' ⟨rfl, e2⟩; subst w')
        go_roundw
        case rel => exact ⟨k + 1, l2, _, cx5, by omega, by omega, by go_num, rfl, hr6, hT6, hnF5, by omega, B6⟩
        case measure => simp [intOf]; omega
      · rw [hk1, hf1]
        clear hk1 hf1
        go_wp2_with (go_at_call 16; refine (len_any _ _ _ _ _ hT6).mono ?_; rintro e w' ⟨rfl, e2⟩; subst w')
        go_roundw
        case rel => exact ⟨k + 1, l2, _, cx5, by omega, by omega, by go_num, rfl, hr6, hT6, hnF5, by omega, B6⟩
        case measure => simp [intOf]; omega
    · have hend : (decide ((k : Int) < (n : Int)) && decide ((k : Int) < 60)) = false := by
        by_cases h1 : (k : Int) < (n : Int)
        · have : ¬ (k : Int) < 60 := by omega
          simp [this]
        · simp [h1]
      have hcs : ¬ (k : Int) < (n : Int) ∨ ((k : Int) < (n : Int) ∧ ¬ (k : Int) < 60) := by omega
      clear hend hr hT hnF hll hlt
      rcases hcs with h1 | ⟨h1, h2⟩
      all_goals
        go_wp2_with (first
          | (go_at_call 15; refine (find_nil _ _ _).mono ?_; rintro e w' ⟨rfl, e2⟩; subst w')
          | (go_at_call 17; refine (last_nil _ _).mono ?_; rintro e w' ⟨rfl, e2⟩; subst w')
          | (go_at_call 14; refine (note_nil _ _ _ _).mono ?_; rintro e w' ⟨rfl, e2⟩; subst w')
          | (go_at_call 16; refine (len_nil _).mono ?_; rintro e w' ⟨rfl, e2⟩; subst w'))
        go_ret
        exact ⟨rfl, hB⟩
end Go.Proofs.Ythemdfcokphjeaa
