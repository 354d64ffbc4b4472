/- The walk for the statement DedupOnce. -/
import Derived.Test.YthemdfcokphjeaaDdw
namespace Go.Proofs.Ythemdfcokphjeaa
open Go.RowKit
open Go.NB (Rd Kp Stp Off Dis Ent dknown dat dlast B64 oneB dB Rw)

theorem slTI : NB.SlT Try.prog 43 3 (.int .i64 0) 1 8 :=
  ⟨Try.underlying43, info_parts (by kernel_rfl), rfl, by omega⟩
def isL (fl : List Nat) : List Value := fl.map fun (x : Nat) => Value.int .i64 (x : Int)
theorem is_at (fl : List Nat) (k : Nat) (h : k < fl.length) : (isL fl)[k]? = some (.int .i64 ((fl.getD k 0 : Nat) : Int)) := by
  simp [isL, List.getD, h]
theorem is_set (fl : List Nat) (k x : Nat) : (isL fl).set k (.int .i64 (x : Int)) = isL (fl.set k x) := by
  rw [isL, isL, List.map_set]
theorem made_is (n : Nat) : (madeCells #[.int .i64 0] (n * 1)).toList = isL (List.replicate n 0) := by
  simp [madeCells, isL, Nat.mod_one]
  rw [List.map_const', List.length_range]
theorem and15 (y : UInt8) : bits .and .u8 (y.toNat : Int) 15 = ((y.toNat % 16 : Nat) : Int) := by
  have h : bits .and .u8 (y.toNat : Int) 15 = (y.toNat : Int) % 16 := bits_mask .u8 8 (by decide) wraps_u8 4 (by decide) _ (by omega) (by have := y.toNat_lt; omega)
  rw [h]; omega

/-- The table's entries, and the places that were noted first. -/
structure Once (l : List Ent) (fl : List Nat) (m : Nat) : Prop where
  ub : ∀ y, fl.getD y 0 ≤ m
  len : fl.length = 256
  at_ : ∀ y, y < 256 → (dknown l (y / 16) (y % 16) = decide (fl.getD y 0 ≠ 0)) ∧ (fl.getD y 0 ≠ 0 → dat l (y / 16) (y % 16) + 1 = (fl.getD y 0 : Int))
theorem rep_getD (m y : Nat) (h : y < m) : (List.replicate m 0).getD y 0 = 0 := by simp [List.getD, h]
theorem once_start : Once [] (List.replicate 256 0) 0 := by
  refine ⟨fun y => by rcases Nat.lt_or_ge y 256 with h | h; · rw [rep_getD 256 y h]; exact Nat.le_refl _
                      · rw [List.getD, List.getElem?_eq_none (by rw [List.length_replicate]; exact h)]; exact Nat.le_refl _, List.length_replicate, fun y hy => ?_⟩
  rw [rep_getD 256 y hy]
  exact ⟨rfl, fun h => absurd rfl h⟩
theorem Once.mono {l : List Ent} {fl : List Nat} {m m' : Nat} (h : Once l fl m) (hm : m ≤ m') : Once l fl m' := ⟨fun y => Nat.le_trans (h.ub y) hm, h.len, h.at_⟩
theorem once_new {l : List Ent} {fl : List Nat} {k : Nat} (h : Once l fl k) {y : Nat} (hy : y < 256) (h0 : fl.getD y 0 = 0) (_ : k ≤ 1000) : Once (l ++ [(y / 16, y % 16, (k : Int))]) (fl.set y (k + 1)) (k + 1) := by
  obtain ⟨hu, hl, ha⟩ := h
  refine ⟨fun z => ?_, by simpa using hl, fun z hz => ?_⟩
  · by_cases hzy : z = y
    · subst hzy; simp [List.getD, hl, hy]
    · have := hu z; simp only [List.getD] at this ⊢; rw [List.getElem?_set_ne (Ne.symm hzy)]; omega
  by_cases hzy : z = y
  · subst hzy
    have e1 : (fl.set z (k + 1)).getD z 0 = k + 1 := by simp [List.getD, hl, hy]
    have e2 : NB.dhit (z / 16) (z % 16) (z / 16, z % 16, (k : Int)) = true := by simp [NB.dhit]
    have e3 : dknown l (z / 16) (z % 16) = false := by rw [(ha z hz).1, h0]; rfl
    rw [e1, NB.dknown_snoc, e2, NB.dat_snoc_new _ _ _ _ e3 e2]
    exact ⟨by simp, fun _ => by simp⟩
  · have e1 : (fl.set y (k + 1)).getD z 0 = fl.getD z 0 := by simp [List.getD, List.getElem?_set_ne (Ne.symm hzy)]
    have e2 : NB.dhit (z / 16) (z % 16) (y / 16, y % 16, (k : Int)) = false := by
      simp only [NB.dhit, Bool.and_eq_false_iff, beq_eq_false_iff_ne]
      omega
    rw [e1, NB.dknown_snoc, e2, Bool.or_false]
    refine ⟨(ha z hz).1, fun hne => ?_⟩
    rw [NB.dat_snoc_old _ _ _ _ (by rw [(ha z hz).1]; simpa using hne)]
    exact (ha z hz).2 hne
theorem dnote_old {l : List Ent} {c s k : Nat} (h : dknown l c s = true) : dnote l c s (k : Int) = (l, 31) := by
  unfold dnote; rw [if_neg (by omega), h]; rfl
theorem dnote_new {l : List Ent} {c s k : Nat} (h : dknown l c s = false) : dnote l c s (k : Int) = (l ++ [(c, s, (k : Int))], 0) := by
  unfold dnote; rw [if_neg (by omega), h]; rfl

set_option maxRecDepth 100000 in
set_option maxHeartbeats 4000000 in
theorem law_donce (w : World) (a : Option Addr) (n c : Nat) (b : List UInt8) (h : NB.RdB w a n c b) :
    Calls Try.prog 5 #[.slice a n c] w fun e w' => e = .returned (.bool true) ∧ Below w.heap.size w w' := by
  have hbd := Rd.bound h
  have hsz := NB.RdB.size h
  by_cases hn : n ≤ 100
  · have hnz : ¬ (100 : Int) < (n : Int) := by omega
    obtain ⟨i, hi, hz, hsi, hby⟩ := slTI.hi
    go_enter Try.func5, Try.ntmps5
    go_wp2_with fail
    refine (awake_any _).mono ?_
    rintro e w1 ⟨rfl, hb1⟩
    go_wp2_with fail
    refine (tnew_any _).mono ?_
    rintro e w2 ⟨p, F, rfl, hT2, hb2⟩
    have B2 := NB.bel hb1 hb2 hb1.size
    have hbase := hb1.size
    clear hb1 hb2
    generalize w1.heap.size = base at *
    go_wp2_with (at_make; refine wpList_make_full w2 rfl (.const (.int .i64 256)) (.const (.int .i64 256)) 43 rfl w2.heap.size 3 i (.int .i64 0) 1 slTI.ht hi hz hsi .i64 .i64 256 256 256 rfl rfl rfl rfl (by rw [hby]; omega) (by unfold maxLen; omega) (Nat.le_refl _) ?_; intro w3 ho3 hg3)
    have hb3 : Below w2.heap.size w2 w3 := (Below.refl _ w2).grown hg3 (Nat.le_refl _) (by rintro k hk; cases hk)
    have hT3 := hT2.below hb3
    have B3 := NB.bel B2 hb3 B2.size
    have hR3 := NB.rw_of_own ho3 (by omega)
    have hGF : ¬ F w2.heap.size := fun hf => by have := (hT2.foot _ hf).2; omega
    have hGw : w.heap.size ≤ w2.heap.size := B2.size
    have hm := made_is 256
    simp only [Value.cells] at hR3
    rw [hm] at hR3
    clear hT2 B2 hb3 ho3 hg3 hm
    generalize w2.heap.size = G at *
    have hO := once_start
    generalize List.replicate 256 0 = fl0 at *
    go_wp2_with fail
    go_loopw [6, 7] (fun m i wr => ∃ (k : Nat) (l : List Ent) (fl : List Nat), k ≤ n ∧ i = .int .i64 (k : Int) ∧ m = .int .i64 (l.length : Int) ∧ HasT wr base p F l ∧ Rw wr G (isL fl) 3 ∧ Once l fl k ∧ l.length ≤ k ∧ Below w.heap.size w wr) (fun _ i _ => n - (intOf i).toNat)
    case atStart => exact ⟨0, [], fl0, by omega, rfl, rfl, hT3, hR3, hO, by simp, B3⟩
    case round =>
      clear hT3 hR3 hO B3
      obtain ⟨k, l, fl, hk, rfl, rfl, hT, hR, hO, hll, hB⟩ := hrel
      by_cases hlt : k < n
      · have hki : (k : Int) < (n : Int) := by omega
        obtain ⟨b3, o3, ea, hc3⟩ := NB.RdB.at h (by omega)
        subst ea
        have hc := fun (w' : World) (hw : Below w.heap.size w w') => ((hw.cell (p := ⟨b3, o3 + k, none⟩) (World.block_lt_of_cell? w _ (hc3 k hlt))).trans (hc3 k hlt))
        clear hc3
        generalize b.getD k 0 = y at *
        have hy := y.toNat_lt
        have hya : bits .and .u8 (y.toNat : Int) 15 = (y.toNat : Int) % 16 := by rw [and15 y]; omega
        have hfa := is_at fl y.toNat (by rw [hO.len]; omega)
        have hcf := hR.cell y.toNat _ hfa
        have hd := hO.at_ y.toNat (by omega)
        have hfl : y.toNat < fl.length := by rw [hO.len]; omega
        have hk100 : k ≤ 1000 := by omega
        obtain ⟨v0, hv0⟩ : ∃ v0, fl.getD y.toNat 0 = v0 := ⟨_, rfl⟩
        have HV := Go.Lib.hid hv0
        have hc64 : B64 (y.toNat / 16) := by unfold B64; omega
        have hs64 : B64 (y.toNat % 16) := by unfold B64; omega
        have hkw : (Lit.int .i64 (k : Int)).wf = true := WalkArith.wf_i64 (by omega)
        have e16 : ((y.toNat / 16 : Nat) : Int) = (y.toNat : Int) / 16 := by omega
        have e17 : ((y.toNat % 16 : Nat) : Int) = (y.toNat : Int) % 16 := by omega
        have ctn := fun w h => note_any w base p F l (y.toNat / 16) (y.toNat % 16) (k : Int) h hc64 hs64 hkw (by omega)
        have ctf := fun w l h => find_any w base p F l (y.toNat / 16) (y.toNat % 16) h hc64 hs64
        rw [e16, e17] at ctn ctf
        have hw16 : IntKind.u64.wrap ((y.toNat : Int) / 16) = (y.toNat : Int) / 16 := by rw [IntKind.wrap_u64]; omega
        have hw17 : IntKind.u64.wrap ((y.toNat : Int) % 16) = (y.toNat : Int) % 16 := by rw [IntKind.wrap_u64]; omega
        have hub := hO.ub y.toNat
        have hnw := fun h0 => once_new hO (y := y.toNat) (k := k) (by omega) h0 hk100
        have hO1 := hO.mono (show k ≤ k + 1 by omega)
        have hset := is_set fl y.toNat (k + 1)
        obtain ⟨hd1, hd2⟩ := hd
        rw [HV.out] at hub hnw hd1 hd2 hcf
        clear hv0
        obtain ⟨v, rfl⟩ : ∃ v, v = v0 := ⟨_, rfl⟩
        have CTN := Go.Lib.hid ctn; have CTF := Go.Lib.hid ctf; have HNW := Go.Lib.hid hnw; have HD1 := Go.Lib.hid hd1; have HD2 := Go.Lib.hid hd2; have HSET := Go.Lib.hid hset; have HO1 := Go.Lib.hid hO1; have HC := Go.Lib.hid hc
        clear ctn ctf hnw hd1 hd2 hset e16 e17 hO1 hc hfa hO hkw hc64 hs64
        go_wp2_with fail
        refine NB.wp_region_t [14] (by kernel_rfl) ?_
        have hT1 := hT.below (dB wr)
        have hR1 := hR.below (dB wr)
        have B1 := hB.drew
        have hcw := HC.out _ B1
        clear hT hR hB hcf
        generalize wr.drew = w4 at *
        refine NB.t_p 0 rfl (by kernel_rfl) (fun K hK => ?_); go_simp; refine hK _ ?_; clear hK K
        refine NB.t_p 1 rfl (by kernel_rfl) (fun K hK => ?_); go_simp; refine hK _ ?_; clear hK K
        refine NB.t_p 2 rfl (by kernel_rfl) (fun K hK => ?_); go_simp; refine hK _ ?_; clear hK K
        refine NB.t_p 3 rfl (by kernel_rfl) (fun K hK => ?_); go_simp; refine hK _ ?_; clear hK K
        refine NB.t_r 4 [5, 6, 14, 15] rfl (by kernel_rfl) (by kernel_rfl) rfl _ (fun w' hw' => NB.run_op_load rfl rfl Try.underlying5 rfl hcw hw') (fun K hK => ?_); go_simp; refine hK _ ?_; clear hK K
        refine NB.t_p 5 rfl (by kernel_rfl) (fun K hK => ?_); go_simp; refine hK _ ?_; clear hK K
        refine NB.t_p 6 rfl (by kernel_rfl) (fun K hK => ?_); go_simp; refine hK _ ?_; clear hK K
        refine NB.t_p 7 rfl (by kernel_rfl) (fun K hK => ?_); go_simp; refine hK _ ?_; clear hK K
        refine NB.t_p 8 rfl (by kernel_rfl) (fun K hK => ?_); go_simp; refine hK _ ?_; clear hK K
        refine NB.t_p 9 rfl (by kernel_rfl) (fun K hK => ?_); go_simp; refine hK _ ?_; clear hK K
        refine NB.t_r 10 [11, 12, 14, 15] rfl (by kernel_rfl) (by kernel_rfl) rfl _ (fun w' hw' => NB.run_op_load rfl rfl Try.underlying5 rfl hcw hw') (fun K hK => ?_); go_simp; refine hK _ ?_; clear hK K
        refine NB.t_p 11 rfl (by kernel_rfl) (fun K hK => ?_); go_simp; refine hK _ ?_; clear hK K
        refine NB.t_p 12 rfl (by kernel_rfl) (fun K hK => ?_); go_simp; refine hK _ ?_; clear hK K
        refine NB.t_p 13 rfl (by kernel_rfl) (fun K hK => ?_); go_simp; refine hK _ ?_; clear hK K
        refine NB.t_w 14 rfl (by kernel_rfl) (by kernel_rfl) rfl (fun Q' hK => ?_)
        go_wp2_with fail
        refine (CTN.out _ hT1).mono ?_
        by_cases hv : v = 0
        · subst hv
          have hdk : dknown l (y.toNat / 16) (y.toNat % 16) = false := HD1.out.trans rfl
          have hdn := NB.dat_snoc_new l (y.toNat / 16, y.toNat % 16, (k : Int)) _ _ hdk (by simp [NB.dhit])
          have hkn := NB.dknown_snoc l (y.toNat / 16, y.toNat % 16, (k : Int)) (y.toNat / 16) (y.toNat % 16)
          rw [hdk, show NB.dhit (y.toNat / 16) (y.toNat % 16) (y.toNat / 16, y.toNat % 16, (k : Int)) = true by simp [NB.dhit]] at hkn
          have hO2 := HNW.out rfl
          rw [dnote_new hdk]
          have hll2 : (l ++ [(y.toNat / 16, y.toNat % 16, (k : Int))]).length = l.length + 1 := by simp
          generalize l ++ [(y.toNat / 16, y.toNat % 16, (k : Int))] = l2 at *
          have HDN := Go.Lib.hid hdn; have HKN := Go.Lib.hid hkn; have HO2 := Go.Lib.hid hO2; have HLL := Go.Lib.hid hll2
          clear hdn hkn hO2 hll2 hdk
          rintro e w5 ⟨rfl, hT5, hS5⟩
          simp only at hT5 ⊢
          have hR5 := hR1.keep hS5.kp hGF
          have B5 := NB.bel B1 (hT1.low hS5) hbase
          have hcw5 := HC.out _ B5
          clear hT1 hR1 B1 hS5 hcw CTN
          go_wp2_with fail
          refine NB.t_p 15 rfl (by kernel_rfl) (fun K hK => ?_); go_simp; refine hK _ ?_; clear hK K
          refine NB.t_end (by kernel_rfl) ?_
          have c5 := hR5.cell y.toNat _ (is_at fl y.toNat hfl)
          have f5 := hR5.free y.toNat
          rw [HV.out] at c5
          go_wp2_with fail
          have hR7 := hR5.set y.toNat (.int .i64 (((k + 1 : Nat)) : Int))
          rw [HSET.out] at hR7
          have B7 := B5.setCell (p := ⟨G, y.toNat, none⟩) hGw (.int .i64 (((k + 1 : Nat)) : Int))
          have K7 : Kp (fun k => k = G) w5 (w5.setCell ⟨G, y.toNat, none⟩ (.int .i64 (((k + 1 : Nat)) : Int))) := (Kp.refl (fun k => k = G) w5).setCell (x := ⟨G, y.toNat, none⟩) (.inl rfl) (.int .i64 (((k + 1 : Nat)) : Int))
          have hT7 := hT5.keep K7 (fun j hj e => hGF (by rw [← e]; exact hj))
          clear hR5 B5 K7 hT5 hcw5 c5 f5
          rw [show ((k + 1 : Nat) : Int) = (k : Int) + 1 by omega] at hR7 B7 hT7
          generalize w5.setCell ⟨G, y.toNat, none⟩ (.int .i64 ((k : Int) + 1)) = w7 at *
          refine NB.wp_region_t [] (by kernel_rfl) ?_
          have hT8 := hT7.below (dB w7)
          have hR8 := hR7.below (dB w7)
          have B8 := B7.drew
          have hcw8 := HC.out _ B8
          clear hR7 B7 hT7
          generalize w7.drew = w8 at *
          refine NB.t_p 0 rfl (by kernel_rfl) (fun K hK => ?_); go_simp; refine hK _ ?_; clear hK K
          refine NB.t_p 1 rfl (by kernel_rfl) (fun K hK => ?_); go_simp; refine hK _ ?_; clear hK K
          refine NB.t_p 2 rfl (by kernel_rfl) (fun K hK => ?_); go_simp; refine hK _ ?_; clear hK K
          refine NB.t_p 3 rfl (by kernel_rfl) (fun K hK => ?_); go_simp; refine hK _ ?_; clear hK K
          refine NB.t_r 4 [5, 6, 13, 14, 15, 16, 17, 18] rfl (by kernel_rfl) (by kernel_rfl) rfl _ (fun w' hw' => NB.run_op_load rfl rfl Try.underlying5 rfl hcw8 hw') (fun K hK => ?_); go_simp; refine hK _ ?_; clear hK K
          refine NB.t_p 5 rfl (by kernel_rfl) (fun K hK => ?_); go_simp; refine hK _ ?_; clear hK K
          refine NB.t_p 6 rfl (by kernel_rfl) (fun K hK => ?_); go_simp; refine hK _ ?_; clear hK K
          refine NB.t_p 7 rfl (by kernel_rfl) (fun K hK => ?_); go_simp; refine hK _ ?_; clear hK K
          refine NB.t_p 8 rfl (by kernel_rfl) (fun K hK => ?_); go_simp; refine hK _ ?_; clear hK K
          refine NB.t_p 9 rfl (by kernel_rfl) (fun K hK => ?_); go_simp; refine hK _ ?_; clear hK K
          refine NB.t_r 10 [11, 12, 13, 14, 15, 16, 17, 18] rfl (by kernel_rfl) (by kernel_rfl) rfl _ (fun w' hw' => NB.run_op_load rfl rfl Try.underlying5 rfl hcw8 hw') (fun K hK => ?_); go_simp; refine hK _ ?_; clear hK K
          refine NB.t_p 11 rfl (by kernel_rfl) (fun K hK => ?_); go_simp; refine hK _ ?_; clear hK K
          refine NB.t_p 12 rfl (by kernel_rfl) (fun K hK => ?_); go_simp; refine hK _ ?_; clear hK K
          refine NB.t_e 13 rfl (by kernel_rfl) (by kernel_rfl) (fun K hK => ?_); unfold NB.tmoves; go_simp; refine (CTF.out _ _ hT8).mono ?_; rintro e w' ⟨rfl, e2⟩; subst w'; refine ⟨_, rfl, Below.refl _ _, hK _ _ ?_⟩; clear hK K
          refine NB.t_p 14 rfl (by kernel_rfl) (fun K hK => ?_); go_simp; refine hK _ ?_; clear hK K
          refine NB.t_p 15 rfl (by kernel_rfl) (fun K hK => ?_); go_simp; refine hK _ ?_; clear hK K
          refine NB.t_p 16 rfl (by kernel_rfl) (fun K hK => ?_); go_simp; refine hK _ ?_; clear hK K
          refine NB.t_p 17 rfl (by kernel_rfl) (fun K hK => ?_); go_simp; refine hK _ ?_; clear hK K
          refine NB.t_p 18 rfl (by kernel_rfl) (fun K hK => ?_); go_simp; refine hK _ ?_; clear hK K
          refine NB.t_end (by kernel_rfl) ?_
          rw [HDN.out, HKN.out]
          have c8 := hR8.cell y.toNat _ (is_at (fl.set y.toNat (k + 1)) y.toNat (by simpa using hfl))
          rw [show (fl.set y.toNat (k + 1)).getD y.toNat 0 = k + 1 by simp [List.getD, hfl], show ((k + 1 : Nat) : Int) = (k : Int) + 1 by omega] at c8
          go_wp2_with (go_at_call 16; refine (len_any _ _ _ _ _ hT8).mono ?_; rintro e w' ⟨rfl, e2⟩; subst w'; rw [HLL.out])
          go_roundw
          case rel => exact ⟨k + 1, l2, _, by omega, by go_num, by rw [HLL.out]; go_num, hT8, hR8, HO2.out, by have := HLL.out; omega, B8⟩
          case measure => simp [intOf]; omega
        · have hdk : dknown l (y.toNat / 16) (y.toNat % 16) = true := by rw [HD1.out]; simpa using hv
          have hda := HD2.out hv
          have hda2 : dat l (y.toNat / 16) (y.toNat % 16) = (v : Int) - 1 := by omega
          rw [dnote_old hdk]
          have HDK := Go.Lib.hid hdk; have HDA := Go.Lib.hid hda2; have v1 : (1 : Int) ≤ (v : Int) := by omega
          have v2 : ((v : Int) == 0) = false := by rw [beq_eq_false_iff_ne]; omega
          have v3 : (v : Int) ≤ 1000 := by omega
          clear hdk hda hda2 hv HNW HSET
          rintro e w5 ⟨rfl, hT5, hS5⟩
          simp only at hT5 ⊢
          have hR5 := hR1.keep hS5.kp hGF
          have B5 := NB.bel B1 (hT1.low hS5) hbase
          have hcw5 := HC.out _ B5
          clear hT1 hR1 B1 hS5 hcw CTN
          go_wp2_with fail
          refine NB.t_p 15 rfl (by kernel_rfl) (fun K hK => ?_); go_simp; refine hK _ ?_; clear hK K
          refine NB.t_end (by kernel_rfl) ?_
          have c5 := hR5.cell y.toNat _ (is_at fl y.toNat hfl)
          rw [HV.out] at c5
          go_wp2_with fail
          have hR7 := hR5
          have B7 := B5
          clear hR5 B5 hcw5 c5
          refine NB.wp_region_t [] (by kernel_rfl) ?_
          have hT8 := hT5.below (dB w5)
          have hR8 := hR7.below (dB w5)
          have B8 := B7.drew
          have hcw8 := HC.out _ B8
          clear hR7 B7 hT5
          generalize w5.drew = w8 at *
          refine NB.t_p 0 rfl (by kernel_rfl) (fun K hK => ?_); go_simp; refine hK _ ?_; clear hK K
          refine NB.t_p 1 rfl (by kernel_rfl) (fun K hK => ?_); go_simp; refine hK _ ?_; clear hK K
          refine NB.t_p 2 rfl (by kernel_rfl) (fun K hK => ?_); go_simp; refine hK _ ?_; clear hK K
          refine NB.t_p 3 rfl (by kernel_rfl) (fun K hK => ?_); go_simp; refine hK _ ?_; clear hK K
          refine NB.t_r 4 [5, 6, 13, 14, 15, 16, 17, 18] rfl (by kernel_rfl) (by kernel_rfl) rfl _ (fun w' hw' => NB.run_op_load rfl rfl Try.underlying5 rfl hcw8 hw') (fun K hK => ?_); go_simp; refine hK _ ?_; clear hK K
          refine NB.t_p 5 rfl (by kernel_rfl) (fun K hK => ?_); go_simp; refine hK _ ?_; clear hK K
          refine NB.t_p 6 rfl (by kernel_rfl) (fun K hK => ?_); go_simp; refine hK _ ?_; clear hK K
          refine NB.t_p 7 rfl (by kernel_rfl) (fun K hK => ?_); go_simp; refine hK _ ?_; clear hK K
          refine NB.t_p 8 rfl (by kernel_rfl) (fun K hK => ?_); go_simp; refine hK _ ?_; clear hK K
          refine NB.t_p 9 rfl (by kernel_rfl) (fun K hK => ?_); go_simp; refine hK _ ?_; clear hK K
          refine NB.t_r 10 [11, 12, 13, 14, 15, 16, 17, 18] rfl (by kernel_rfl) (by kernel_rfl) rfl _ (fun w' hw' => NB.run_op_load rfl rfl Try.underlying5 rfl hcw8 hw') (fun K hK => ?_); go_simp; refine hK _ ?_; clear hK K
          refine NB.t_p 11 rfl (by kernel_rfl) (fun K hK => ?_); go_simp; refine hK _ ?_; clear hK K
          refine NB.t_p 12 rfl (by kernel_rfl) (fun K hK => ?_); go_simp; refine hK _ ?_; clear hK K
          refine NB.t_e 13 rfl (by kernel_rfl) (by kernel_rfl) (fun K hK => ?_); unfold NB.tmoves; go_simp; refine (CTF.out _ _ hT8).mono ?_; rintro e w' ⟨rfl, e2⟩; subst w'; refine ⟨_, rfl, Below.refl _ _, hK _ _ ?_⟩; clear hK K
          refine NB.t_p 14 rfl (by kernel_rfl) (fun K hK => ?_); go_simp; refine hK _ ?_; clear hK K
          refine NB.t_p 15 rfl (by kernel_rfl) (fun K hK => ?_); go_simp; refine hK _ ?_; clear hK K
          refine NB.t_p 16 rfl (by kernel_rfl) (fun K hK => ?_); go_simp; refine hK _ ?_; clear hK K
          refine NB.t_p 17 rfl (by kernel_rfl) (fun K hK => ?_); go_simp; refine hK _ ?_; clear hK K
          refine NB.t_p 18 rfl (by kernel_rfl) (fun K hK => ?_); go_simp; refine hK _ ?_; clear hK K
          refine NB.t_end (by kernel_rfl) ?_
          rw [HDA.out, HDK.out]
          have c8 := hR8.cell y.toNat _ (is_at fl y.toNat hfl)
          rw [HV.out] at c8
          go_wp2_with (go_at_call 16; refine (len_any _ _ _ _ _ hT8).mono ?_; rintro e w' ⟨rfl, e2⟩; subst w')
          go_roundw
          case rel => exact ⟨k + 1, l, fl, by omega, by go_num, rfl, hT8, hR8, HO1.out, by omega, B8⟩
          case measure => simp [intOf]; omega
      · obtain rfl : k = n := by omega
        clear hT hR hO
        go_wp2_with fail
        go_ret
        exact ⟨rfl, hB⟩
  · have hnz : (100 : Int) < (n : Int) := by omega
    go_enter Try.func5, Try.ntmps5
    go_wp2_with (go_at_call 8; refine (awake_any _).mono ?_; rintro e w1 ⟨rfl, hb1⟩)
    go_ret
    exact ⟨rfl, hb1⟩
end Go.Proofs.Ythemdfcokphjeaa
