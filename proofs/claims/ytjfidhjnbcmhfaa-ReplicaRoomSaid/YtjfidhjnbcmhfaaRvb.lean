/- The walk for the statement ReplicaRoom. -/
import Derived.Test.YtjfidhjnbcmhfaaRpx4
namespace Go.Proofs.Ytjfidhjnbcmhfaa
open Go.RowKit
open Go.NB.Crc
open Go.NB (Rd RdU Dk Kp Stp Off Dis val I64 Rw oneB dB rw_new B64 Ent dknown dat dhit)

/-- What holds ahead of each round: i entries were tried, m of them stand. -/
structure RmI (k i m : Nat) (D : Dk) (R : Rp) : Prop where
  calm : Calm 20 k D R
  many : R.many = 1
  own : R.own = 0
  open_ : R.sealed = false
  len : (R.seg 0).l.length = m
  tab : R.tab.length = m
  new : ∀ s, i ≤ s → dknown R.tab 1 s = false
theorem rm_begin (k : Nat) (h1 : 1 ≤ k) (h2 : k ≤ 8) : RmI k 0 0 (Dk.fresh 20) (rp0 k 1 0) where
  calm := rq_calm h1 (by omega) (by omega) (by omega) (by omega)
  many := rfl
  own := rfl
  open_ := rfl
  len := by rw [rp0_l]; rfl
  tab := rfl
  new := fun s _ => rfl
theorem rm_step {k i m : Nat} {D : Dk} {R : Rp} (h : RmI k i m D R) (hi : i < 100) (b : List UInt8) (hb : b.length ≤ 1024) :
    (∃ D' R', addM D R (1, i, b) = (D', R', (m : Int), true, 0) ∧ RmI k (i + 1) (m + 1) D' R') ∨ (addM D R (1, i, b) = (D, R, 0, false, 21) ∧ RmI k (i + 1) m D R) := by
  have h1 : B64 1 := by decide
  have h2 : B64 i := by unfold B64; omega
  have hk := h.new i (Nat.le_refl _)
  by_cases hf : (R.seg R.own).used + needM (bytE (1, i, b)).length ≤ k
  · left
    obtain ⟨D', ha, hc⟩ := calm_add_new h.calm (x := (1, i, b)) h1 h2 hb hk h.open_ hf
    refine ⟨D', { R.more R.own (bytE (1, i, b)) with tab := R.tab ++ [(1, i, ((R.seg R.own).l.length : Int))] }, ?_, ?_⟩
    · rw [ha, h.own, h.len]
    · have h0 : (0 : Nat) < R.l.length := by rw [h.calm.full, h.many]; decide
      refine { calm := hc, many := h.many, own := h.own, open_ := h.open_, len := ?_, tab := ?_, new := fun s hs => ?_ }
      · have := more_seg (b := bytE (1, i, b)) h0 0
        rw [if_pos rfl] at this
        rw [h.own]
        show ((R.more 0 (bytE (1, i, b))).seg 0).l.length = m + 1
        rw [this, List.length_append, h.len]; rfl
      · show (R.tab ++ [_]).length = m + 1
        rw [List.length_append, h.tab]; rfl
      · show dknown (R.tab ++ [_]) 1 s = false
        rw [NB.dknown_snoc, h.new s (by omega)]
        simp [dhit]; omega
  · right
    exact ⟨calm_add_full h.calm (x := (1, i, b)) h1 h2 hb hk h.open_ hf, { h with new := fun s hs => h.new s (by omega) }⟩
theorem made_b (v : Value) (n : Nat) : (madeCells #[v] n).toList = List.replicate n v := by
  have e2 : ∀ x : Nat, (#[v] : Array Value)[x % (#[v] : Array Value).size]! = v := by
    intro x
    rw [show x % (#[v] : Array Value).size = 0 from Nat.mod_one x]
    rfl
  unfold madeCells
  simp only [e2]
  simp [List.map_const']
theorem rdB_made {wb w2 : World} {t : TypeId} {K g : Nat} (ho : w2.ownsRow wb.heap.size t 1 (.slice (some ⟨g, 0, none⟩) K K) K (madeCells (Value.int .u8 0).cells (K * 1)).toList) (hg : wb.grownBy w2 none) :
    NB.RdB w2 (some ⟨g, 0, none⟩) K K (List.replicate K 0) ∧ Below wb.heap.size wb w2 := by
  refine ⟨?_, (Below.refl _ wb).grown hg (Nat.le_refl _) (by rintro k hk; cases hk)⟩
  obtain ⟨a2, c2, e2, hr2, _⟩ := NB.rd_of_own ho
  cases e2
  rw [show (Value.int IntKind.u8 0).cells = #[.int .u8 0] from rfl, Nat.mul_one, made_b] at hr2
  show Rd 1 _ _ _ _ ((List.replicate K 0).map NB.u8v)
  rw [List.map_replicate]
  exact hr2
set_option maxRecDepth 100000 in
set_option maxHeartbeats 8000000 in
theorem law_rroom (w : World) (x : Int) (a : Option Addr) (n c : Nat) (bs : List UInt8) (hx : (Lit.int .u8 x).wf = true) (h : NB.RdB w a n c bs) :
    Calls Try.prog 4 #[.int .u8 x, .slice a n c] w fun e w' => e = .returned (.bool true) ∧ Below w.heap.size w w' := by
  have hbd := Rd.bound h
  obtain ⟨i, hi, hz, hszi, hby⟩ := slTB.hi
  by_cases h60 : 20 < n
  · have h60i : (20 : Int) < (n : Int) := by omega
    go_enter Try.func4, Try.ntmps4
    go_wp2_with (first
      | (go_at_call 8; refine (rawake_any _).mono ?_; rintro e w1 ⟨rfl, hb1⟩))
    go_ret
    exact ⟨rfl, hb1⟩
  have h60i : ¬ (20 : Int) < (n : Int) := by omega
  have hxb := bounds_u8 hx
  obtain ⟨x, rfl⟩ := Int.eq_ofNat_of_zero_le hxb.1
  obtain ⟨k, hk⟩ : ∃ k, x % 8 + 1 = k := ⟨_, rfl⟩
  have hk1 : 1 ≤ k := by omega
  have hk8 : k ≤ 8 := by omega
  have hki : (x : Int) % 8 + 1 = (k : Int) := by omega
  have HNEW := Go.Lib.hid (fun w1 hb => qd_new w w1 hb 20 (by omega) (by omega))
  have hI := rm_begin k hk1 hk8
  have HI := Go.Lib.hid hI
  have HBY := Go.Lib.hid hby
  clear hI hx hxb hk
  go_enter Try.func4, Try.ntmps4
  go_wp2_with (first
    | (go_at_call 8; refine (rawake_any _).mono ?_; rintro e w1 ⟨rfl, hb1⟩)
    | (go_at_call 9; refine (HNEW.out _ hb1).mono ?_; rintro e w2 ⟨p, rfl, hD⟩)
    | (go_at_call 10; refine (rq_open 20 k 1 0 hD hk1 (by omega) (by omega) (by omega) (by omega) (by omega)).mono ?_; rintro e w3 ⟨r, rfl, hR⟩))
  go_loopw [11, 12] (fun v j wr => ∃ (m mn : Nat) (D : Dk) (R : Rp), m ≤ n ∧ v = .int .i64 mn ∧ j = .int .i64 m ∧ mn ≤ m ∧ HasRp (fun _ => False) w wr r p D R ∧ RmI k m mn D R) (fun _ j _ => n - (intOf j).toNat)
  case atStart => exact ⟨0, 0, Dk.fresh 20, rp0 k 1 0, by omega, rfl, rfl, by omega, hR, HI.out⟩
  case round =>
    clear hR HI hb1 hD
    obtain ⟨m, mn, D, R, hm, rfl, rfl, hmn, hR, hI⟩ := hrel
    have hlow := rq_low hR
    have HI := Go.Lib.hid hI
    clear hI
    by_cases hlt : m < n
    case neg =>
      obtain rfl : m = n := by omega
      have hlti : ¬ (m : Int) < (m : Int) := by omega
      have hmk : mn ≤ k := by have h1 := HI.out.len; have h2 := HI.out.calm.llen 0; omega
      go_wp2_with fail
      go_ret
      exact ⟨rfl, hlow⟩
    have hlti : (m : Int) < (n : Int) := by omega
    obtain ⟨b4, o4, rfl, hc4⟩ := NB.RdB.at h (by omega)
    have q4w := hc4 m hlt
    clear hc4
    obtain ⟨Z, hZ⟩ : ∃ Z, (bs.getD m 0).toNat = Z := ⟨_, rfl⟩
    have hZ2 : Z ≤ 255 := by have := (bs.getD m 0).toNat_lt; omega
    rw [hZ] at q4w
    clear hZ
    have q4 := (Below.cell hlow (World.block_lt_of_cell? _ _ q4w)).trans q4w
    have hwm : IntKind.u64.wrap (m : Int) = (m : Int) := IntWalk.u64_in _ ⟨by omega, by omega⟩
    go_wp2_with (at_make; refine wpList_make_full wr rfl (.tmp 53) (.tmp 53) 22 rfl wr.heap.size 5 i (.int .u8 0) 1 slTB.ht hi hz hszi .i64 .i64 _ _ Z rfl rfl (by simp) (by simp) (by rw [HBY.out]; omega) (by unfold maxLen; omega) (Nat.le_refl _) ?_; intro w4 ho2 hg2; obtain ⟨of2, bl2⟩ := rdB_made ho2 hg2; clear ho2 hg2)
    have hR4 := hR.below bl2
    have had := rq_add hR4 HI.out.calm (by omega) (by have := HI.out.tab; omega) 1 m (by decide) (by unfold B64; omega) _ Z Z _ of2
    have hbl : (List.replicate Z (0 : UInt8)).length ≤ 1024 := by rw [List.length_replicate]; omega
    rcases rm_step HI.out (by omega) (List.replicate Z 0) hbl with ⟨D', R', ha, hI'⟩ | ⟨ha, hI'⟩
    · rw [ha] at had
      have HAD := Go.Lib.hid had
      have HI2 := Go.Lib.hid hI'
      clear had ha hI' HI hR of2 hbl hR4
      go_at_call 14
      refine HAD.out.mono ?_
      rintro e w5 ⟨rfl, hR5, _⟩
      replace hR5 : HasRp (fun _ => False) w w5 r p D' R' := hR5
      have herr := rperr_any hR5
      rw [HI2.out.calm.e] at herr
      have HERR := Go.Lib.hid herr
      clear herr bl2 q4
      have hm0 : ((mn : Int) + 1 == 0) = false := by simp; omega
      have hm1 : (0 : Int) < (mn : Int) + 1 := by omega
      have hw1 : IntKind.u64.wrap ((mn : Int) + 1) = (mn : Int) + 1 := IntWalk.u64_in _ ⟨by omega, by omega⟩
      have hl1 : (R'.seg 0).l.length = mn + 1 := HI2.out.len
      have hlens := rq_lens hR5 HI2.out.calm (by omega) 1 (by rw [HI2.out.many]; exact Nat.le_refl _) (fun _ h0 => by rw [h0] at hl1; cases hl1) (fun i h1 h2 => by rw [HI2.out.many] at h2; omega)
      have HL1 := Go.Lib.hid hl1
      have HLENS := Go.Lib.hid hlens
      clear hlens hl1
      simp only
      go_wp2_with (first
        | (go_at_call 15; refine HERR.out.mono ?_; rintro e w' ⟨rfl, e2⟩; subst w'))
      go_at_call 12
      refine HLENS.out.mono ?_
      rintro e w6 ⟨a6, c6, rfl, hb6, hl6⟩
      obtain ⟨b6, o6, rfl, hc6⟩ := hl6 (by omega)
      have q6 := hc6 0 (by omega)
      rw [HL1.out, Nat.add_zero] at q6
      replace q6 : w6.cell? ⟨b6, o6, none⟩ = some (.int .u64 ((mn : Int) + 1)) := by rw [q6]; simp
      have hR6 := hR5.below hb6
      clear hl6 hc6
      go_wp2_with fail
      exact ⟨⟨m + 1, mn + 1, D', R', by omega, by simp, by simp, by omega, hR6, HI2.out⟩, by simp [intOf]; omega⟩
    · rw [ha] at had
      have HAD := Go.Lib.hid had
      have HI2 := Go.Lib.hid hI'
      clear had ha hI' HI hR of2 hbl hR4
      go_at_call 14
      refine HAD.out.mono ?_
      rintro e w5 ⟨rfl, hR5, _⟩
      replace hR5 : HasRp (fun _ => False) w w5 r p D R := hR5
      have herr := rperr_any hR5
      rw [HI2.out.calm.e] at herr
      have HERR := Go.Lib.hid herr
      clear herr bl2 q4
      by_cases hmn0 : mn = 0
      · subst hmn0
        have hl1 : (R.seg 0).l.length = 0 := HI2.out.len
        have hlens := rq_lens hR5 HI2.out.calm (by omega) 0 (Nat.zero_le _) (fun h => absurd h (by omega)) (fun i h1 h2 => by rw [HI2.out.many] at h2; have h3 : i = 0 := (by omega); rw [h3]; exact List.eq_nil_of_length_eq_zero hl1)
        have HLENS := Go.Lib.hid hlens
        clear hlens hl1
        simp only
        go_wp2_with (first
          | (go_at_call 15; refine HERR.out.mono ?_; rintro e w' ⟨rfl, e2⟩; subst w'))
        go_at_call 12
        refine HLENS.out.mono ?_
        rintro e w6 ⟨a6, c6, rfl, hb6, hl6⟩
        have hR6 := hR5.below hb6
        clear hl6
        go_wp2_with fail
        exact ⟨⟨m + 1, 0, D, R, by omega, by simp, by simp, by omega, hR6, HI2.out⟩, by simp [intOf]; omega⟩
      · have hm0 : ((mn : Int) == 0) = false := by simp; omega
        have hm1 : (0 : Int) < (mn : Int) := by omega
        have hw1 : IntKind.u64.wrap (mn : Int) = (mn : Int) := IntWalk.u64_in _ ⟨by omega, by omega⟩
        have hl1 : (R.seg 0).l.length = mn := HI2.out.len
        have hlens := rq_lens hR5 HI2.out.calm (by omega) 1 (by rw [HI2.out.many]; exact Nat.le_refl _) (fun _ h0 => by rw [h0] at hl1; exact hmn0 hl1.symm) (fun i h1 h2 => by rw [HI2.out.many] at h2; omega)
        have HL1 := Go.Lib.hid hl1
        have HLENS := Go.Lib.hid hlens
        clear hlens hl1
        simp only
        go_wp2_with (first
          | (go_at_call 15; refine HERR.out.mono ?_; rintro e w' ⟨rfl, e2⟩; subst w'))
        go_at_call 12
        refine HLENS.out.mono ?_
        rintro e w6 ⟨a6, c6, rfl, hb6, hl6⟩
        obtain ⟨b6, o6, rfl, hc6⟩ := hl6 (by omega)
        have q6 := hc6 0 (by omega)
        rw [HL1.out, Nat.add_zero] at q6
        have hR6 := hR5.below hb6
        clear hl6 hc6
        go_wp2_with fail
        exact ⟨⟨m + 1, mn, D, R, by omega, by simp, by simp, by omega, hR6, HI2.out⟩, by simp [intOf]; omega⟩
end Go.Proofs.Ytjfidhjnbcmhfaa
