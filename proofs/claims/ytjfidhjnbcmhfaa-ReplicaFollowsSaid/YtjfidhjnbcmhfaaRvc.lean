/- The walk for the statement ReplicaFollows. -/
import Derived.Test.YtjfidhjnbcmhfaaRpx4
import Derived.Test.YtjfidhjnbcmhfaaRpx2
namespace Go.Proofs.Ytjfidhjnbcmhfaa
open Go.RowKit
open Go.NB.Crc
open Go.NB (Rd RdU Dk Kp Stp Off Dis val I64 Rw oneB dB rw_new B64 Ent dknown dat dhit)

/-- What holds ahead of each round: the first n of the bodies stand. -/
structure FoI (bs : List (List UInt8)) (n : Nat) (D : Dk) (R : Rp) : Prop where
  calm : Calm 80 40 D R
  many : R.many = 2
  own : R.own = 1
  l : (R.seg 0).l = (List.range n).map fun k => bytE (1, k, bs.getD k [])
  l1 : (R.seg 1).l = []
  le : n ≤ bs.length ∧ bs.length ≤ 12
  small : ∀ k, k < n → (bs.getD k []).length ≤ 60
theorem fo_begin (bs : List (List UInt8)) (h : bs.length ≤ 12) : FoI bs 0 (Dk.fresh 80) (rp0 40 2 1) where
  calm := rq_calm (by omega) (by omega) (by omega) (by omega) (by omega)
  many := rfl
  own := rfl
  l := by rw [rp0_l]; rfl
  l1 := rp0_l _ _ _ _
  le := ⟨Nat.zero_le _, h⟩
  small := fun k hk => absurd hk (by omega)
theorem nblk_two : ∀ l : List (List UInt8), (∀ b ∈ l, b.length ≤ 90) → nblk l ≤ 2 * l.length
  | [], _ => Nat.le_refl _
  | b :: l, h => by
    have h1 := nblk_two l (fun c hc => h c (List.mem_cons_of_mem _ hc))
    have h2 := h b (List.mem_cons_self ..)
    have h3 : needM b.length ≤ 2 := by unfold needM; omega
    simp only [nblk, List.length_cons]
    omega
theorem fo_len {bs : List (List UInt8)} {n : Nat} {D : Dk} {R : Rp} (h : FoI bs n D R) : (R.seg 0).l.length = n := by rw [h.l]; simp
theorem fo_at {bs : List (List UInt8)} {n k : Nat} {D : Dk} {R : Rp} (h : FoI bs n D R) (hk : k < n) : (R.seg 0).l.getD k [] = bytE (1, k, bs.getD k []) := by
  rw [h.l, List.getD_eq_getElem?_getD, List.getElem?_map, List.getElem?_range hk]; rfl
theorem fo_b {k : Nat} (hk : k < 12) : B64 k := by unfold B64; omega
theorem fo_later {bs : List (List UInt8)} {n k : Nat} {D : Dk} {R : Rp} (h : FoI bs n D R) (hk : n < k) (hkl : k < bs.length) (hb : (bs.getD k []).length ≤ 60) : storeM D R 0 (k : Int) (1, k, bs.getD k []) = (D, R, 36) :=
  calm_store_later h.calm (i := 0) (j := k) (by rw [h.many]; omega) (by rw [h.own]; omega) (x := (1, k, bs.getD k [])) (show B64 1 by decide) (show B64 k from fo_b (by have := h.le.2; omega)) (by show (bs.getD k []).length ≤ 1024; omega) (by rw [fo_len h]; exact hk)
theorem fo_same {bs : List (List UInt8)} {n k : Nat} {D : Dk} {R : Rp} (h : FoI bs n D R) (hk : k < n) : storeM D R 0 (k : Int) (1, k, bs.getD k []) = (D, R, 0) := by
  have hs := h.small k hk
  have h1 := calm_store_old h.calm (i := 0) (j := k) (by rw [h.many]; omega) (by rw [h.own]; omega) (x := (1, k, bs.getD k [])) (show B64 1 by decide) (show B64 k from fo_b (by have := h.le; omega)) (by show (bs.getD k []).length ≤ 1024; omega) (by rw [fo_len h]; exact hk)
  rw [fo_at h hk, if_pos rfl] at h1
  exact h1
theorem fo_other {bs : List (List UInt8)} {n k : Nat} {D : Dk} {R : Rp} (h : FoI bs n D R) (hk : k < n) : storeM D R 0 (k : Int) (2, k, bs.getD k []) = (D, R, 33) := by
  have hs := h.small k hk
  have hb := fo_b (k := k) (by have := h.le; omega)
  have h1 := calm_store_old h.calm (i := 0) (j := k) (by rw [h.many]; omega) (by rw [h.own]; omega) (x := (2, k, bs.getD k [])) (show B64 2 by decide) hb (by show (bs.getD k []).length ≤ 1024; omega) (by rw [fo_len h]; exact hk)
  rw [fo_at h hk, if_neg (fun e => by
    have := byt_inj (x := (1, k, bs.getD k [])) (y := (2, k, bs.getD k [])) ⟨(show B64 1 by decide), hb, by show (bs.getD k []).length ≤ 1024; omega⟩ ⟨(show B64 2 by decide), hb, by show (bs.getD k []).length ≤ 1024; omega⟩ e
    cases this)] at h1
  exact h1
theorem fo_new {bs : List (List UInt8)} {n : Nat} {D : Dk} {R : Rp} (h : FoI bs n D R) (hn : n < bs.length) (hs : (bs.getD n []).length ≤ 60) : ∃ D' R', storeM D R 0 (n : Int) (1, n, bs.getD n []) = (D', R', 0) ∧ FoI bs (n + 1) D' R' := by
  have hb := fo_b (k := n) (by have := h.le; omega)
  have hp := put_byt (x := (1, n, bs.getD n [])) (show B64 1 by decide) hb (by show (bs.getD n []).length ≤ 1024; omega)
  have hp2 : (bytE (1, n, bs.getD n [])).length ≤ (bs.getD n []).length + 27 := hp.2.1
  have hu : (R.seg 0).used ≤ 2 * n := by
    have h1 := (h.calm.used 0 (by rw [h.many]; omega)).1
    have h2 := nblk_two (R.seg 0).l (fun b hbm => by
      rw [h.l] at hbm
      obtain ⟨k, hk, rfl⟩ := List.mem_map.1 hbm
      have hk := List.mem_range.1 hk
      have h3 := h.small k hk
      have h4 : (bytE (1, k, bs.getD k [])).length ≤ (bs.getD k []).length + 27 := (put_byt (x := (1, k, bs.getD k [])) (show B64 1 by decide) (show B64 k from fo_b (by have := h.le; omega)) (by show (bs.getD k []).length ≤ 1024; omega)).2.1
      omega)
    rw [fo_len h] at h2
    omega
  have hf : (R.seg 0).used + needM (bytE (1, n, bs.getD n [])).length ≤ 40 := by
    have h3 : needM (bytE (1, n, bs.getD n [])).length ≤ 2 := by unfold needM; omega
    have := h.le
    omega
  obtain ⟨D', h1, h2⟩ := calm_store_new h.calm (i := 0) (by rw [h.many]; omega) (by rw [h.own]; omega) (x := (1, n, bs.getD n [])) (show B64 1 by decide) hb (by show (bs.getD n []).length ≤ 1024; omega) hf
  rw [fo_len h] at h1
  have h0 : (0 : Nat) < R.l.length := by rw [h.calm.full, h.many]; omega
  refine ⟨D', R.more 0 (bytE (1, n, bs.getD n [])), h1, { calm := h2, many := h.many, own := h.own, l := ?_, l1 := ?_, le := ⟨hn, h.le.2⟩, small := fun k hk => ?_ }⟩
  · rw [more_seg h0, if_pos rfl, h.l, List.range_succ, List.map_append]; rfl
  · rw [more_seg h0, if_neg (by omega)]; exact h.l1
  · rcases Nat.lt_succ_iff_lt_or_eq.1 hk with hk | rfl
    · exact h.small k hk
    · exact hs
theorem fo_read {bs : List (List UInt8)} {n k : Nat} {D : Dk} {R : Rp} (h : FoI bs n D R) (hk : k < n) : rreadM R 0 (k : Int) = ((1, k, bs.getD k []), 0) := by
  have hs := h.small k hk
  have h1 := calm_read h.calm (i := 0) (j := k) (by rw [h.many]; omega) (by rw [fo_len h]; exact hk)
  rw [fo_at h hk, (put_byt (x := (1, k, bs.getD k [])) (show B64 1 by decide) (show B64 k from fo_b (by have := h.le; omega)) (by show (bs.getD k []).length ≤ 1024; omega)).2.2] at h1
  exact h1
set_option maxRecDepth 100000 in
set_option maxHeartbeats 16000000 in
theorem law_rfollows (w : World) (a : Option Addr) (n c : Nat) (bs : List (List UInt8)) (a1 : Option Addr) (n1 c1 : Nat) (od : List UInt8) (h : NB.RdBB w a n c bs) (h1 : NB.RdB w a1 n1 c1 od) :
    Calls Try.prog 7 #[.slice a n c, .slice a1 n1 c1] w fun e w' => e = .returned (.bool true) ∧ Below w.heap.size w w' := by
  have hbd := NB.RdBB.bound h
  have hbd1 := Rd.bound h1
  by_cases h12 : 12 < n
  · have h12i : (12 : Int) < (n : Int) := by omega
    go_enter Try.func7, Try.ntmps7
    go_wp2_with (first
      | (go_at_call 8; refine (rawake_any _).mono ?_; rintro e w1 ⟨rfl, hb1⟩))
    go_ret
    exact ⟨rfl, hb1⟩
  have h12i : ¬ (12 : Int) < (n : Int) := by omega
  by_cases h60 : 60 < n1
  · have h60i : (60 : Int) < (n1 : Int) := by omega
    go_enter Try.func7, Try.ntmps7
    go_wp2_with (first
      | (go_at_call 8; refine (rawake_any _).mono ?_; rintro e w1 ⟨rfl, hb1⟩))
    go_ret
    exact ⟨rfl, hb1⟩
  have h60i : ¬ (60 : Int) < (n1 : Int) := by omega
  have HNEW := Go.Lib.hid (fun w1 hb => qd_new w w1 hb 80 (by omega) (by omega))
  have hsz := h.len
  have hI := fo_begin bs (by omega)
  have HI := Go.Lib.hid hI
  have HSZ := Go.Lib.hid hsz
  clear hI hsz
  go_enter Try.func7, Try.ntmps7
  go_wp2_with (first
    | (go_at_call 8; refine (rawake_any _).mono ?_; rintro e w1 ⟨rfl, hb1⟩)
    | (go_at_call 9; refine (HNEW.out _ hb1).mono ?_; rintro e w2 ⟨p, rfl, hD⟩)
    | (go_at_call 10; refine (rq_open 80 40 2 1 hD (by omega) (by omega) (by omega) (by omega) (by omega) (by omega)).mono ?_; rintro e w3 ⟨r, rfl, hR⟩))
  go_loopw [10, 11] (fun v j wr => ∃ (m nn : Nat) (D : Dk) (R : Rp), m ≤ n1 ∧ v = .int .i64 nn ∧ j = .int .i64 m ∧ HasRp (fun _ => False) w wr r p D R ∧ FoI bs nn D R) (fun _ j _ => n1 - (intOf j).toNat)
  case atStart => exact ⟨0, 0, Dk.fresh 80, rp0 40 2 1, by omega, rfl, rfl, hR, HI.out⟩
  case round =>
    clear hR HI hb1 hD
    obtain ⟨m, nn, D, R, hm, rfl, rfl, hR, hI⟩ := hrel
    have hlow := rq_low hR
    have HI := Go.Lib.hid hI
    clear hI
    --ROUND
    by_cases hmn : m < n1
    case neg =>
      obtain rfl : m = n1 := by omega
      have hmi : ¬ (m : Int) < (m : Int) := by omega
      have HR := Go.Lib.hid hR
      clear hR
      go_wp2_with fail
      go_loopw [16] (fun j wr => ∃ (m : Nat), m ≤ nn ∧ j = .int .i64 m ∧ HasRp (fun _ => False) w wr r p D R) (fun j _ => nn - (intOf j).toNat)
      case atStart => exact ⟨0, Nat.zero_le _, rfl, HR.out⟩
      case round =>
        clear HR hlow
        obtain ⟨m, hm, rfl, hR⟩ := hrel
        have hlow := rq_low hR
        by_cases hmn : m < nn
        case neg =>
          obtain rfl : m = nn := by omega
          have hmi : ¬ (m : Int) < (m : Int) := by omega
          clear hR
          go_wp2_with (first
            | (go_at_call 18; refine (rseal_nil _).mono ?_; rintro e w' ⟨rfl, e2⟩; subst w'))
          go_at_call 14
          refine (rpad_nil _ 0 0 none 0 0).mono ?_
          rintro e w7 ⟨rfl, hb7⟩
          go_wp2_with fail
          go_at_call 13
          refine (rprd_nil _ 0 0).mono ?_
          rintro e w8 ⟨a8, n8, c8, rfl, hr8, hb8⟩
          simp only
          have hB8 := bel (bel hlow hb7 hlow.size) hb8 (bel hlow hb7 hlow.size).size
          have ob := oneB w8 (.cells #[.int .u64 0, .int .u64 0, .slice a8 n8 c8] 34)
          have hB9 := bel hB8 ob hB8.size
          clear hr8 hb8 hb7
          go_wp2_with fail
          go_at_call 11
          refine (rpst_nil _ 0 0 0 0 none 0 0).mono ?_
          rintro e w9 ⟨rfl, hb9⟩
          have hB10 := bel hB9 hb9 hB9.size
          clear hB8 hB9 hb9 ob
          go_wp2_with (first
            | (go_at_call 15; refine (rperr_nil _).mono ?_; rintro e w' ⟨rfl, e2⟩; subst w')
            | (go_at_call 19; refine (rsealed_nil _).mono ?_; rintro e w' ⟨rfl, e2⟩; subst w')
            | (go_at_call 12; refine (rpln_nil _).mono ?_; rintro e w' ⟨rfl, e2⟩; subst w'))
          go_ret
          exact ⟨rfl, hB10⟩
        have hmi : (m : Int) < (nn : Int) := by omega
        have hle := HI.out.le
        obtain ⟨b3, o3, rfl, hc3⟩ := NB.RdBB.pos h (by have := HSZ.out; omega)
        obtain ⟨ai, ni, ci, q3w, hri0⟩ := hc3 m (by have := HSZ.out; omega)
        have hrd := fo_read HI.out hmn
        obtain ⟨t, ht⟩ : ∃ t, bs.getD m [] = t := ⟨_, rfl⟩
        rw [ht] at hri0 hrd
        have hsm := HI.out.small m hmn
        rw [ht] at hsm
        have hrr := rq_read hR HI.out.calm 0 (m : Int)
        rw [hrd] at hrr
        have HRR := Go.Lib.hid hrr
        have HSM := Go.Lib.hid hsm
        have hwm : IntKind.u64.wrap (m : Int) = (m : Int) := IntWalk.u64_in _ ⟨by omega, by omega⟩
        have hmn1 : m < n := by have := HSZ.out; omega
        clear hrr hrd hc3 ht hsm hle
        go_wp2_with fail
        go_at_call 13
        refine HRR.out.mono ?_
        rintro e w6 ⟨a6, n6, c6, rfl, hr6, hb6⟩
        have hr6' : NB.RdB w6 a6 n6 c6 t := hr6
        have ob := oneB w6 (.cells #[.int .u64 1, .int .u64 (m : Int), .slice a6 n6 c6] 34)
        have RY : Rw (w6.alloc (.cells #[.int .u64 1, .int .u64 (m : Int), .slice a6 n6 c6] 34)) w6.heap.size [.int .u64 1, .int .u64 (m : Int), .slice a6 n6 c6] 34 := NB.rw_new w6 [.int .u64 1, .int .u64 (m : Int), .slice a6 n6 c6] _ rfl
        have hR7 := (hR.below hb6).below ob
        have hr7 := Rd.below hr6' ob
        clear hr6 hr6' ob hb6 hR HRR
        simp only
        go_wp2_with fail
        generalize w6.alloc (.cells #[.int .u64 1, .int .u64 (m : Int), .slice a6 n6 c6] 34) = w7 at *
        refine NB.wp_region_m (by kernel_rfl) ?_
        have hR8 := hR7.below (Below.refl _ w7).drew
        have RY8 := RY.below (Below.refl _ w7).drew
        have hr8 := Rd.below hr7 (Below.refl _ w7).drew
        clear hR7 RY hr7
        generalize w7.drew = w8 at *
        have y1 := RY8.cell 1 _ rfl
        have y2 := RY8.cell 2 _ rfl
        have q8 := (Below.cell (rq_low hR8) (World.block_lt_of_cell? _ _ q3w)).trans q3w
        have hri8 := Rd.below hri0 (rq_low hR8)
        refine NB.any_p 0 rfl (by kernel_rfl) (fun K hK => ?_); go_simp; refine hK _ ?_; clear hK K
        refine NB.any_p 1 rfl (by kernel_rfl) (fun K hK => ?_); go_simp; refine hK _ ?_; clear hK K
        refine NB.any_p 2 rfl (by kernel_rfl) (fun K hK => ?_); go_simp; refine hK _ ?_; clear hK K
        refine NB.any_p 3 rfl (by kernel_rfl) (fun K hK => ?_); go_simp; refine hK _ ?_; clear hK K
        refine NB.any_r 4 rfl (by kernel_rfl) rfl _ (fun w' hw' => NB.run_op_load rfl rfl Try.underlying32 rfl y1 hw') (fun K hK => ?_); go_simp; refine hK _ ?_; clear hK K
        refine NB.any_p 5 rfl (by kernel_rfl) (fun K hK => ?_); go_simp; refine hK _ ?_; clear hK K
        refine NB.any_p 6 rfl (by kernel_rfl) (fun K hK => ?_); go_simp; refine hK _ ?_; clear hK K
        refine NB.any_p 7 rfl (by kernel_rfl) (fun K hK => ?_); go_simp; refine hK _ ?_; clear hK K
        refine NB.any_p 8 rfl (by kernel_rfl) (fun K hK => ?_); go_simp; refine hK _ ?_; clear hK K
        refine NB.any_p 9 rfl (by kernel_rfl) (fun K hK => ?_); go_simp; refine hK _ ?_; clear hK K
        refine NB.any_p 10 rfl (by kernel_rfl) (fun K hK => ?_); go_simp; refine hK _ ?_; clear hK K
        refine NB.any_r 11 rfl (by kernel_rfl) rfl _ (fun w' hw' => NB.run_op_load rfl rfl Try.underlying22 rfl y2 hw') (fun K hK => ?_); go_simp; refine hK _ ?_; clear hK K
        refine NB.any_r 12 rfl (by kernel_rfl) rfl _ (fun w' hw' => NB.run_op_conv_str Try.underlying22 Try.underlying5 Try.underlying9 rfl rfl (Rd.below hr8 hw')) (fun K hK => ?_); go_simp; refine hK _ ?_; clear hK K
        refine NB.any_p 13 rfl (by kernel_rfl) (fun K hK => ?_); go_simp; refine hK _ ?_; clear hK K
        refine NB.any_p 14 rfl (by kernel_rfl) (fun K hK => ?_); go_simp; refine hK _ ?_; clear hK K
        refine NB.any_p 15 rfl (by kernel_rfl) (fun K hK => ?_); go_simp; refine hK _ ?_; clear hK K
        refine NB.any_r 16 rfl (by kernel_rfl) rfl _ (fun w' hw' => NB.run_op_load rfl rfl Try.underlying22 rfl q8 hw') (fun K hK => ?_); go_simp; refine hK _ ?_; clear hK K
        refine NB.any_r 17 rfl (by kernel_rfl) rfl _ (fun w' hw' => NB.run_op_conv_str Try.underlying22 Try.underlying5 Try.underlying9 rfl rfl (Rd.below hri8 hw')) (fun K hK => ?_); go_simp; refine hK _ ?_; clear hK K
        refine NB.any_p 18 rfl (by kernel_rfl) (fun K hK => ?_); go_simp; refine hK _ ?_; clear hK K
        refine NB.any_p 19 rfl (by kernel_rfl) (fun K hK => ?_); go_simp; refine hK _ ?_; clear hK K
        refine NB.any_end (by kernel_rfl) ?_
        go_wp2_with fail
        exact ⟨⟨m + 1, by omega, by simp, hR8⟩, by simp [intOf]; omega⟩
    have hmi : (m : Int) < (n1 : Int) := by omega
    by_cases hn0 : 0 < n
    case neg =>
      have hni : ¬ (0 : Int) < (n : Int) := by omega
      clear hmn
      have HR := Go.Lib.hid hR
      clear hR
      go_wp2_with fail
      go_loopw [16] (fun j wr => ∃ (m : Nat), m ≤ nn ∧ j = .int .i64 m ∧ HasRp (fun _ => False) w wr r p D R) (fun j _ => nn - (intOf j).toNat)
      case atStart => exact ⟨0, Nat.zero_le _, rfl, HR.out⟩
      case round =>
        clear HR hlow
        obtain ⟨m, hm, rfl, hR⟩ := hrel
        have hlow := rq_low hR
        by_cases hmn : m < nn
        case neg =>
          obtain rfl : m = nn := by omega
          have hmi : ¬ (m : Int) < (m : Int) := by omega
          clear hR
          go_wp2_with (first
            | (go_at_call 18; refine (rseal_nil _).mono ?_; rintro e w' ⟨rfl, e2⟩; subst w'))
          go_at_call 14
          refine (rpad_nil _ 0 0 none 0 0).mono ?_
          rintro e w7 ⟨rfl, hb7⟩
          go_wp2_with fail
          go_at_call 13
          refine (rprd_nil _ 0 0).mono ?_
          rintro e w8 ⟨a8, n8, c8, rfl, hr8, hb8⟩
          simp only
          have hB8 := bel (bel hlow hb7 hlow.size) hb8 (bel hlow hb7 hlow.size).size
          have ob := oneB w8 (.cells #[.int .u64 0, .int .u64 0, .slice a8 n8 c8] 34)
          have hB9 := bel hB8 ob hB8.size
          clear hr8 hb8 hb7
          go_wp2_with fail
          go_at_call 11
          refine (rpst_nil _ 0 0 0 0 none 0 0).mono ?_
          rintro e w9 ⟨rfl, hb9⟩
          have hB10 := bel hB9 hb9 hB9.size
          clear hB8 hB9 hb9 ob
          go_wp2_with (first
            | (go_at_call 15; refine (rperr_nil _).mono ?_; rintro e w' ⟨rfl, e2⟩; subst w')
            | (go_at_call 19; refine (rsealed_nil _).mono ?_; rintro e w' ⟨rfl, e2⟩; subst w')
            | (go_at_call 12; refine (rpln_nil _).mono ?_; rintro e w' ⟨rfl, e2⟩; subst w'))
          go_ret
          exact ⟨rfl, hB10⟩
        exfalso; have h7 := HI.out.le; have h8 := HSZ.out; omega
    have hni : (0 : Int) < (n : Int) := by omega
    obtain ⟨b4, o4, rfl, hc4⟩ := NB.RdB.at h1 (by omega)
    have q4w := hc4 m hmn
    clear hc4
    obtain ⟨Z, hZ⟩ : ∃ Z, (od.getD m 0).toNat = Z := ⟨_, rfl⟩
    have hZ2 : Z ≤ 255 := by have := (od.getD m 0).toNat_lt; omega
    rw [hZ] at q4w
    clear hZ
    have q4 := (Below.cell hlow (World.block_lt_of_cell? _ _ q4w)).trans q4w
    obtain ⟨k, hk⟩ : ∃ k, Z % n = k := ⟨_, rfl⟩
    have hkn : k < n := by rw [← hk]; exact Nat.mod_lt _ hn0
    have hki : (Z : Int) % (n : Int) = (k : Int) := by rw [← hk]; simp
    have hnz : ((n : Int) == 0) = false := by simp; omega
    clear hk
    obtain ⟨b3, o3, rfl, hc3⟩ := NB.RdBB.pos h hn0
    obtain ⟨ai, ni, ci, q3w, hri0⟩ := hc3 k hkn
    clear hc3
    have q3 := (Below.cell hlow (World.block_lt_of_cell? _ _ q3w)).trans q3w
    have hsi := NB.RdB.size hri0
    have hbi := Rd.bound hri0
    have HSI := Go.Lib.hid hsi
    clear hsi
    by_cases hl60 : 60 < ni
    · have hl60i : (60 : Int) < (ni : Int) := by omega
      go_wp2_with fail
      go_ret
      exact ⟨rfl, hlow⟩
    have hl60i : ¬ (60 : Int) < (ni : Int) := by omega
    have hwk : IntKind.u64.wrap (k : Int) = (k : Int) := IntWalk.u64_in _ ⟨by omega, by omega⟩
    have ob := oneB wr (.cells #[.int .u64 1, .int .u64 (k : Int), .slice ai ni ci] 34)
    have RX : Rw (wr.alloc (.cells #[.int .u64 1, .int .u64 (k : Int), .slice ai ni ci] 34)) wr.heap.size [.int .u64 1, .int .u64 (k : Int), .slice ai ni ci] 34 := NB.rw_new wr [.int .u64 1, .int .u64 (k : Int), .slice ai ni ci] _ rfl
    have hR4 := hR.keepX (Y := fun k => k = wr.heap.size) ob (fun k hk => .inr (by omega)) (fun k hk => by rw [hk]; exact RX.lt)
    have hxl : ∀ k : Nat, k = wr.heap.size → w.heap.size ≤ k := fun k hk => by rw [hk]; exact hlow.size
    have hr4 : NB.RdB _ ai ni ci (bs.getD k []) := Rd.below hri0 (rq_low hR4)
    have hst := rq_store hR4 HI.out.calm (by omega) 0 (k : Int) 1 k (by decide) (fo_b (by omega)) ai ni ci _ hr4
    clear ob
    rcases Nat.lt_trichotomy k nn with hlt | heq | hgt
    · have g1 : (k : Int) < (nn : Int) := by omega
      have g2 : ¬ (nn : Int) < (k : Int) := by omega
      have g3 : ((k : Int) == (nn : Int)) = false := by simp; omega
      have g4 : (k : Int) ≤ (nn : Int) := by omega
      have g5 : (0 : Int) < (nn : Int) := by omega
      have g6 : ((nn : Int) == 0) = false := by simp; omega
      have hwn : IntKind.u64.wrap (nn : Int) = (nn : Int) := IntWalk.u64_in _ ⟨by omega, by have := HI.out.le; omega⟩
      rw [fo_same HI.out hlt] at hst
      have hI2 := HI.out
      have HST := Go.Lib.hid hst
      have HI2 := Go.Lib.hid hI2
      clear hst hI2 hR4 hr4 hR HI
      go_wp2_with fail
      generalize hw4 : wr.alloc (.cells #[.int .u64 1, .int .u64 (k : Int), .slice ai ni ci] 34) = w4 at *
      clear hw4
      go_at_call 11
      refine HST.out.mono ?_
      rintro e w5 ⟨rfl, hR5, K5⟩
      replace hR5 : HasRp (fun k => k = wr.heap.size) w w5 r p D R := hR5
      have RX5 := RX.keep K5 (fun hn => hn rfl)
      have m0 := RX5.cell 0 _ rfl
      have f0 := RX5.free 0
      have hR6 := hR5.setX ⟨wr.heap.size, 0, none⟩ rfl hxl (.int .u64 2)
      have RX6 := RX5.set 0 (.int .u64 2)
      replace RX6 : Rw (w5.setCell ⟨wr.heap.size, 0, none⟩ (.int .u64 2)) wr.heap.size [.int .u64 2, .int .u64 (k : Int), .slice ai ni ci] 34 := RX6
      simp only
      have n0 := RX6.cell 0 _ rfl
      have n1 := RX6.cell 1 _ rfl
      have n2 := RX6.cell 2 _ rfl
      have hst2 := rq_store hR6 HI2.out.calm (by omega) 0 (k : Int) 2 k (by decide) (fo_b (by omega)) ai ni ci _ (Rd.below hri0 (rq_low hR6))
      rw [fo_other HI2.out (by omega)] at hst2
      have HST2 := Go.Lib.hid hst2
      clear hst2 K5 RX RX5 hR5 HST q3 q4
      go_wp2_with fail
      clear m0 f0 n0 n1 n2
      generalize hw6 : w5.setCell ⟨wr.heap.size, 0, none⟩ (.int .u64 2) = w6 at *
      clear hw6
      go_at_call 11
      refine HST2.out.mono ?_
      rintro e w7 ⟨rfl, hR7, K7⟩
      replace hR7 : HasRp (fun k => k = wr.heap.size) w w7 r p D R := hR7
      clear K7 HST2 hR6 RX6
      simp only
      have hl1 : (R.seg 0).l.length = nn := fo_len HI2.out
      have hlens := rq_lens hR7 HI2.out.calm (by omega) 1 (by rw [HI2.out.many]; omega) (fun _ h0 => by rw [h0] at hl1; simp at hl1; try omega) (fun i h1 h2 => by rw [HI2.out.many] at h2; have h3 : i = 1 := (by omega); rw [h3]; exact HI2.out.l1)
      have HL1 := Go.Lib.hid hl1
      have HLENS := Go.Lib.hid hlens
      clear hlens hl1
      go_wp2_with fail
      go_at_call 12
      refine HLENS.out.mono ?_
      rintro e w8 ⟨a8, c8, rfl, hb8, hl8⟩
      obtain ⟨b8, o8, rfl, hc8⟩ := hl8 (by omega)
      have q8 := hc8 0 (by omega)
      rw [HL1.out, Nat.add_zero] at q8
      replace q8 : w8.cell? ⟨b8, o8, none⟩ = some (.int .u64 (nn : Int)) := q8.trans (by simp)
      have hR9 := hR7.below hb8
      have hR10 : HasRp (fun _ => False) w w8 r p D R := hR9.imp (fun k h => h.elim)
      clear hl8 hR9 hR7
      go_wp2_with fail
      exact ⟨⟨m + 1, nn, D, R, by omega, by simp, by simp, hR10, HI2.out⟩, by simp [intOf]; omega⟩
    · subst heq
      have g1 : (k : Int) < (k : Int) + 1 := by omega
      have g2 : ¬ (k : Int) < (k : Int) := by omega
      have g3 : ((k : Int) == (k : Int)) = true := by simp
      have g4 : (k : Int) ≤ (k : Int) := by omega
      have g5 : (0 : Int) < (k : Int) + 1 := by omega
      have g6 : ((k : Int) + 1 == 0) = false := by simp; omega
      have hwn : IntKind.u64.wrap ((k : Int) + 1) = (k : Int) + 1 := IntWalk.u64_in _ ⟨by omega, by omega⟩
      obtain ⟨D', R', hs, hI2⟩ := fo_new HI.out (by rw [HSZ.out]; exact hkn) (by rw [HSI.out]; omega)
      rw [hs] at hst
      clear hs
      have HST := Go.Lib.hid hst
      have HI2 := Go.Lib.hid hI2
      clear hst hI2 hR4 hr4 hR HI
      go_wp2_with fail
      generalize hw4 : wr.alloc (.cells #[.int .u64 1, .int .u64 (k : Int), .slice ai ni ci] 34) = w4 at *
      clear hw4
      go_at_call 11
      refine HST.out.mono ?_
      rintro e w5 ⟨rfl, hR5, K5⟩
      replace hR5 : HasRp (fun k => k = wr.heap.size) w w5 r p D' R' := hR5
      have RX5 := RX.keep K5 (fun hn => hn rfl)
      have m0 := RX5.cell 0 _ rfl
      have f0 := RX5.free 0
      have hR6 := hR5.setX ⟨wr.heap.size, 0, none⟩ rfl hxl (.int .u64 2)
      have RX6 := RX5.set 0 (.int .u64 2)
      replace RX6 : Rw (w5.setCell ⟨wr.heap.size, 0, none⟩ (.int .u64 2)) wr.heap.size [.int .u64 2, .int .u64 (k : Int), .slice ai ni ci] 34 := RX6
      simp only
      have n0 := RX6.cell 0 _ rfl
      have n1 := RX6.cell 1 _ rfl
      have n2 := RX6.cell 2 _ rfl
      have hst2 := rq_store hR6 HI2.out.calm (by omega) 0 (k : Int) 2 k (by decide) (fo_b (by omega)) ai ni ci _ (Rd.below hri0 (rq_low hR6))
      rw [fo_other HI2.out (by omega)] at hst2
      have HST2 := Go.Lib.hid hst2
      clear hst2 K5 RX RX5 hR5 HST q3 q4
      go_wp2_with fail
      clear m0 f0 n0 n1 n2
      generalize hw6 : w5.setCell ⟨wr.heap.size, 0, none⟩ (.int .u64 2) = w6 at *
      clear hw6
      go_at_call 11
      refine HST2.out.mono ?_
      rintro e w7 ⟨rfl, hR7, K7⟩
      replace hR7 : HasRp (fun k => k = wr.heap.size) w w7 r p D' R' := hR7
      clear K7 HST2 hR6 RX6
      simp only
      have hl1 : (R'.seg 0).l.length = (k + 1) := fo_len HI2.out
      have hlens := rq_lens hR7 HI2.out.calm (by omega) 1 (by rw [HI2.out.many]; omega) (fun _ h0 => by rw [h0] at hl1; simp at hl1; try omega) (fun i h1 h2 => by rw [HI2.out.many] at h2; have h3 : i = 1 := (by omega); rw [h3]; exact HI2.out.l1)
      have HL1 := Go.Lib.hid hl1
      have HLENS := Go.Lib.hid hlens
      clear hlens hl1
      go_wp2_with fail
      go_at_call 12
      refine HLENS.out.mono ?_
      rintro e w8 ⟨a8, c8, rfl, hb8, hl8⟩
      obtain ⟨b8, o8, rfl, hc8⟩ := hl8 (by omega)
      have q8 := hc8 0 (by omega)
      rw [HL1.out, Nat.add_zero] at q8
      replace q8 : w8.cell? ⟨b8, o8, none⟩ = some (.int .u64 ((k : Int) + 1)) := q8.trans (by simp)
      have hR9 := hR7.below hb8
      have hR10 : HasRp (fun _ => False) w w8 r p D' R' := hR9.imp (fun k h => h.elim)
      clear hl8 hR9 hR7
      go_wp2_with fail
      exact ⟨⟨m + 1, (k + 1), D', R', by omega, by simp, by simp, hR10, HI2.out⟩, by simp [intOf]; omega⟩
    · have g1 : ¬ (k : Int) < (nn : Int) := by omega
      have g2 : (nn : Int) < (k : Int) := by omega
      have g3 : ((k : Int) == (nn : Int)) = false := by simp; omega
      have g4 : ¬ (k : Int) ≤ (nn : Int) := by omega
      rw [fo_later HI.out hgt (by rw [HSZ.out]; exact hkn) (by rw [HSI.out]; omega)] at hst
      have hI2 := HI.out
      have HST := Go.Lib.hid hst
      have HI2 := Go.Lib.hid hI2
      clear hst hI2 hR4 hr4 hR HI
      go_wp2_with fail
      generalize hw4 : wr.alloc (.cells #[.int .u64 1, .int .u64 (k : Int), .slice ai ni ci] 34) = w4 at *
      clear hw4
      go_at_call 11
      refine HST.out.mono ?_
      rintro e w5 ⟨rfl, hR5, K5⟩
      replace hR5 : HasRp (fun k => k = wr.heap.size) w w5 r p D R := hR5
      have RX5 := RX.keep K5 (fun hn => hn rfl)
      have m0 := RX5.cell 0 _ rfl
      have f0 := RX5.free 0
      have hR6 := hR5.setX ⟨wr.heap.size, 0, none⟩ rfl hxl (.int .u64 2)
      have RX6 := RX5.set 0 (.int .u64 2)
      replace RX6 : Rw (w5.setCell ⟨wr.heap.size, 0, none⟩ (.int .u64 2)) wr.heap.size [.int .u64 2, .int .u64 (k : Int), .slice ai ni ci] 34 := RX6
      simp only
      clear K5 RX RX5 RX6 hR5 HST q3 q4
      by_cases hnn0 : nn = 0
      · subst hnn0
        have hl1 : (R.seg 0).l.length = 0 := fo_len HI2.out
        have hlens := rq_lens hR6 HI2.out.calm (by omega) 0 (Nat.zero_le _) (fun h => absurd h (by omega)) (fun i h1 h2 => by
          rw [HI2.out.many] at h2
          have h3 : i = 0 ∨ i = 1 := by omega
          rcases h3 with h3 | h3
          · rw [h3]; exact List.eq_nil_of_length_eq_zero hl1
          · rw [h3]; exact HI2.out.l1)
        have HLENS := Go.Lib.hid hlens
        clear hlens hl1
        go_wp2_with fail
        clear m0 f0
        generalize hw6 : w5.setCell ⟨wr.heap.size, 0, none⟩ (.int .u64 2) = w6 at *
        clear hw6
        go_at_call 12
        refine HLENS.out.mono ?_
        rintro e w8 ⟨a8, c8, rfl, hb8, hl8⟩
        have hR9 := hR6.below hb8
        have hR10 : HasRp (fun _ => False) w w8 r p D R := hR9.imp (fun k h => h.elim)
        clear hl8 hR9 hR6
        go_wp2_with fail
        exact ⟨⟨m + 1, 0, D, R, by omega, by simp, by simp, hR10, HI2.out⟩, by simp [intOf]; omega⟩
      · have g5 : (0 : Int) < (nn : Int) := by omega
        have g6 : ((nn : Int) == 0) = false := by simp; omega
        have hwn : IntKind.u64.wrap (nn : Int) = (nn : Int) := IntWalk.u64_in _ ⟨by omega, by have := HI2.out.le; omega⟩
        have hl1 : (R.seg 0).l.length = nn := fo_len HI2.out
        have hlens := rq_lens hR6 HI2.out.calm (by omega) 1 (by rw [HI2.out.many]; omega) (fun _ h0 => by rw [h0] at hl1; simp at hl1; try omega) (fun i h1 h2 => by rw [HI2.out.many] at h2; have h3 : i = 1 := (by omega); rw [h3]; exact HI2.out.l1)
        have HL1 := Go.Lib.hid hl1
        have HLENS := Go.Lib.hid hlens
        clear hlens hl1
        go_wp2_with fail
        clear m0 f0
        generalize hw6 : w5.setCell ⟨wr.heap.size, 0, none⟩ (.int .u64 2) = w6 at *
        clear hw6
        go_at_call 12
        refine HLENS.out.mono ?_
        rintro e w8 ⟨a8, c8, rfl, hb8, hl8⟩
        obtain ⟨b8, o8, rfl, hc8⟩ := hl8 (by omega)
        have q8 := hc8 0 (by omega)
        rw [HL1.out, Nat.add_zero] at q8
        replace q8 : w8.cell? ⟨b8, o8, none⟩ = some (.int .u64 (nn : Int)) := q8.trans (by simp)
        have hR9 := hR6.below hb8
        have hR10 : HasRp (fun _ => False) w w8 r p D R := hR9.imp (fun k h => h.elim)
        clear hl8 hR9 hR6
        go_wp2_with fail
        exact ⟨⟨m + 1, nn, D, R, by omega, by simp, by simp, hR10, HI2.out⟩, by simp [intOf]; omega⟩
end Go.Proofs.Ytjfidhjnbcmhfaa
