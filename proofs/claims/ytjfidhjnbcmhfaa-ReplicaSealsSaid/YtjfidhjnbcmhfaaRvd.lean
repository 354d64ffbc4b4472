/- The walk for the statement ReplicaSeals. -/
import Derived.Test.YtjfidhjnbcmhfaaRpx4
namespace Go.Proofs.Ytjfidhjnbcmhfaa
open Go.RowKit
open Go.NB.Crc
open Go.NB (Rd RdU Dk Kp Stp Off Dis val I64 Rw oneB dB rw_new B64 Ent dknown dat dhit)

structure SlI (nn : Nat) (A : List Nat) (D : Dk) (R : Rp) : Prop where
  calm : Calm 80 40 D R
  many : R.many = 2
  own : R.own = 1
  l0 : (R.seg 0).l = []
  l1 : (R.seg 1).l.length = nn
  small : ∀ b ∈ (R.seg 1).l, b.length ≤ 27
  tab : R.tab.length = nn
  al : A.length = 256
  top : ∀ c, A.getD c 0 ≤ nn
  at_ : ∀ c, c < 256 → dknown R.tab 1 c = decide (0 < A.getD c 0) ∧ (0 < A.getD c 0 → dat R.tab 1 c = (A.getD c 0 : Int) - 1)
theorem sl_begin : SlI 0 (List.replicate 256 0) (Dk.fresh 80) (rp0 40 2 1) where
  calm := rq_calm (by omega) (by omega) (by omega) (by omega) (by omega)
  many := rfl
  own := rfl
  l0 := rp0_l _ _ _ _
  l1 := by rw [rp0_l]; rfl
  small := fun b hb => by rw [rp0_l] at hb; cases hb
  tab := rfl
  al := List.length_replicate
  top := fun c => by rw [List.getD_eq_getElem?_getD, List.getElem?_replicate]; split <;> exact Nat.le_refl _
  at_ := fun c hc => by
    have h0 : (List.replicate 256 0).getD c 0 = 0 := by rw [List.getD_eq_getElem?_getD, List.getElem?_replicate, if_pos hc]; rfl
    rw [h0]
    exact ⟨rfl, fun h => absurd h (by omega)⟩
theorem sl_b {c : Nat} (h : c < 256) : B64 c := by unfold B64; omega
theorem nblk_one : ∀ l : List (List UInt8), (∀ b ∈ l, b.length ≤ 45) → nblk l = l.length
  | [], _ => rfl
  | b :: l, h => by
    have h1 := nblk_one l (fun c hc => h c (List.mem_cons_of_mem _ hc))
    have h2 := h b (List.mem_cons_self ..)
    have h3 : needM b.length = 1 := by unfold needM; omega
    simp only [nblk, List.length_cons]
    omega
theorem sl_old {nn c : Nat} {A : List Nat} {D : Dk} {R : Rp} (h : SlI nn A D R) (hc : c < 256) (ha : 0 < A.getD c 0) : addM D R (1, c, []) = (D, R, (A.getD c 0 : Int) - 1, false, 0) := by
  have h1 := calm_add_old h.calm (x := (1, c, [])) (show B64 1 by decide) (sl_b hc) (Nat.zero_le _) (by rw [(h.at_ c hc).1]; exact decide_eq_true ha)
  rw [h1]
  show (D, R, dat R.tab 1 c, false, (0 : Int)) = _
  rw [(h.at_ c hc).2 ha]
theorem sl_sealed {nn c : Nat} {A : List Nat} {D : Dk} {R : Rp} (h : SlI nn A D R) (hc : c < 256) (ha : ¬ 0 < A.getD c 0) (hs : R.sealed = true) : addM D R (1, c, []) = (D, R, 0, false, 34) :=
  calm_add_sealed h.calm (x := (1, c, [])) (show B64 1 by decide) (sl_b hc) (Nat.zero_le _) (by rw [(h.at_ c hc).1]; exact decide_eq_false ha) hs
theorem sl_new {nn c : Nat} {A : List Nat} {D : Dk} {R : Rp} (h : SlI nn A D R) (hn : nn < 16) (hc : c < 256) (ha : ¬ 0 < A.getD c 0) (hs : R.sealed = false) :
    ∃ D' R', addM D R (1, c, []) = (D', R', (nn : Int), true, 0) ∧ SlI (nn + 1) (A.set c (nn + 1)) D' R' ∧ R'.sealed = false := by
  have hk : dknown R.tab 1 c = false := by rw [(h.at_ c hc).1]; exact decide_eq_false ha
  have hp : (bytE (1, c, [])).length ≤ 27 := (put_byt (x := (1, c, [])) (show B64 1 by decide) (sl_b hc) (Nat.zero_le _)).2.1
  have hu : (R.seg 1).used = nn := by
    rw [(h.calm.used 1 (by rw [h.many]; omega)).1, nblk_one _ (fun b hb => by have := h.small b hb; omega), h.l1]
  obtain ⟨D', h1, h2⟩ := calm_add_new h.calm (x := (1, c, [])) (show B64 1 by decide) (sl_b hc) (Nat.zero_le _) hk hs (by rw [h.own, hu]; unfold needM; omega)
  have hl : (1 : Nat) < R.l.length := by rw [h.calm.full, h.many]; decide
  have hm := more_seg (b := bytE (1, c, [])) hl
  refine ⟨D', { R.more R.own (bytE (1, c, [])) with tab := R.tab ++ [(1, c, ((R.seg R.own).l.length : Int))] }, ?_, { calm := h2, many := h.many, own := h.own, l0 := ?_, l1 := ?_, small := ?_, tab := ?_, al := ?_, top := fun e => ?_, at_ := fun e he => ?_ }, hs⟩
  · rw [h1, h.own, h.l1]
  · rw [h.own]
    show ((R.more 1 (bytE (1, c, []))).seg 0).l = []
    rw [hm, if_neg (by omega)]; exact h.l0
  · rw [h.own]
    show ((R.more 1 (bytE (1, c, []))).seg 1).l.length = nn + 1
    rw [hm, if_pos rfl, List.length_append, h.l1]; rfl
  · rw [h.own]
    show ∀ b ∈ ((R.more 1 (bytE (1, c, []))).seg 1).l, b.length ≤ 27
    rw [hm, if_pos rfl]
    intro b hb
    rcases List.mem_append.1 hb with hb | hb
    · exact h.small b hb
    · rw [List.mem_singleton.1 hb]; exact hp
  · show (R.tab ++ [_]).length = nn + 1
    rw [List.length_append, h.tab]; rfl
  · rw [List.length_set]; exact h.al
  · have h9 := h.top e
    rw [List.getD_eq_getElem?_getD] at h9 ⊢
    rw [List.getElem?_set]
    split
    · split
      · exact Nat.le_refl _
      · exact Nat.zero_le _
    · omega
  · show dknown (R.tab ++ [(1, c, ((R.seg R.own).l.length : Int))]) 1 e = _ ∧ (_ → dat (R.tab ++ [(1, c, ((R.seg R.own).l.length : Int))]) 1 e = _)
    rw [h.own, h.l1]
    have hg : (A.set c (nn + 1)).getD e 0 = if e = c then nn + 1 else A.getD e 0 := by
      rw [List.getD_eq_getElem?_getD, List.getElem?_set, List.getD_eq_getElem?_getD]
      by_cases hec : c = e
      · rw [if_pos hec, if_pos (by rw [h.al]; exact hc), if_pos hec.symm]; rfl
      · rw [if_neg hec, if_neg (fun h => hec h.symm)]
    rw [hg, NB.dknown_snoc]
    by_cases hec : e = c
    · subst hec
      rw [if_pos rfl, hk]
      refine ⟨by simp [dhit], fun _ => ?_⟩
      rw [NB.dat_snoc_new R.tab _ 1 e hk (by simp [dhit])]
      simp
    · rw [if_neg hec, (h.at_ e he).1]
      have hd : dhit 1 e (1, c, (nn : Int)) = false := by simp [dhit]; exact fun h => hec h.symm
      refine ⟨by rw [hd, Bool.or_false], fun hp0 => ?_⟩
      rw [NB.dat_snoc_old R.tab _ 1 e (by rw [(h.at_ e he).1]; exact decide_eq_true hp0)]
      exact (h.at_ e he).2 hp0
theorem sl_seal {nn : Nat} {A : List Nat} {D : Dk} {R : Rp} (h : SlI nn A D R) (b : Bool) : SlI nn A D { R with sealed := b } :=
  { calm := h.calm.seal b, many := h.many, own := h.own, l0 := h.l0, l1 := h.l1, small := h.small, tab := h.tab, al := h.al, top := h.top, at_ := h.at_ }
theorem sl_store {nn : Nat} {A : List Nat} {D : Dk} {R : Rp} (h : SlI nn A D R) : ∃ D' R', storeM D R 0 0 (2, 1, []) = (D', R', 0) ∧ Calm 80 40 D' R' ∧ R'.many = 2 ∧ (R'.seg 0).l.length = 1 ∧ (R'.seg 1).l.length = nn ∧ R'.sealed = R.sealed := by
  have hp : (bytE (2, 1, [])).length ≤ 27 := (put_byt (x := (2, 1, [])) (show B64 2 by decide) (show B64 1 by decide) (Nat.zero_le _)).2.1
  have hu : (R.seg 0).used = 0 := by rw [(h.calm.used 0 (by rw [h.many]; omega)).1, h.l0]; rfl
  obtain ⟨D', h1, h2⟩ := calm_store_new h.calm (i := 0) (by rw [h.many]; omega) (by rw [h.own]; omega) (x := (2, 1, [])) (show B64 2 by decide) (show B64 1 by decide) (Nat.zero_le _) (by rw [hu]; unfold needM; omega)
  rw [h.l0] at h1
  have hl : (0 : Nat) < R.l.length := by rw [h.calm.full, h.many]; decide
  refine ⟨D', _, h1, h2, h.many, ?_, ?_, rfl⟩
  · rw [more_seg hl, if_pos rfl, h.l0]; rfl
  · rw [more_seg hl, if_neg (by omega)]; exact h.l1
def intsL (A : List Nat) : List Value := A.map fun (x : Nat) => Value.int .i64 (x : Int)
theorem ints_at (A : List Nat) (c : Nat) (h : c < A.length) : (intsL A)[c]? = some (.int .i64 (A.getD c 0 : Int)) := by
  rw [intsL, List.getElem?_map, List.getD_eq_getElem?_getD, List.getElem?_eq_getElem h]; rfl
theorem ints_set (A : List Nat) (c x : Nat) : (intsL A).set c (.int .i64 (x : Int)) = intsL (A.set c x) := by
  rw [intsL, intsL, List.map_set]
theorem slTI : NB.SlT Try.prog 45 3 (.int .i64 0) 1 8 :=
  ⟨Try.underlying45, info_parts (by kernel_rfl), rfl, by omega⟩
theorem made_i (v : Value) (n : Nat) : (madeCells #[v] n).toList = List.replicate n v := by
  have e2 : ∀ x : Nat, (#[v] : Array Value)[x % (#[v] : Array Value).size]! = v := by
    intro x
    rw [show x % (#[v] : Array Value).size = 0 from Nat.mod_one x]
    rfl
  unfold madeCells
  simp only [e2]
  simp [List.map_const']
theorem row_made {wb w2 : World} {t : TypeId} {K : Nat} (hK : 0 < K) (ho : w2.ownsRow wb.heap.size t 1 (.slice (some ⟨wb.heap.size, 0, none⟩) K K) K (madeCells (Value.int .i64 0).cells (K * 1)).toList) (hg : wb.grownBy w2 none) :
    Rw w2 wb.heap.size (intsL (List.replicate K 0)) t ∧ Below wb.heap.size wb w2 := by
  refine ⟨?_, (Below.refl _ wb).grown hg (Nat.le_refl _) (by rintro k hk; cases hk)⟩
  rw [show (Value.int IntKind.i64 0).cells = #[.int .i64 0] from rfl, Nat.mul_one, made_i] at ho
  have h := NB.rw_of_own ho hK
  rw [show intsL (List.replicate K 0) = List.replicate K (.int .i64 0) by unfold intsL; rw [List.map_replicate]; rfl]
  exact h
set_option maxRecDepth 100000 in
set_option maxHeartbeats 16000000 in
theorem law_rseals (w : World) (a : Option Addr) (n c : Nat) (bf : List UInt8) (a1 : Option Addr) (n1 c1 : Nat) (af : List UInt8) (h : NB.RdB w a n c bf) (h1 : NB.RdB w a1 n1 c1 af) :
    Calls Try.prog 6 #[.slice a n c, .slice a1 n1 c1] w fun e w' => e = .returned (.bool true) ∧ Below w.heap.size w w' := by
  have hbd := Rd.bound h
  have hbd1 := Rd.bound h1
  by_cases h12 : 16 < n
  · have h12i : (16 : Int) < (n : Int) := by omega
    go_enter Try.func6, Try.ntmps6
    go_wp2_with (first
      | (go_at_call 8; refine (rawake_any _).mono ?_; rintro e w1 ⟨rfl, hb1⟩))
    go_ret
    exact ⟨rfl, hb1⟩
  have h12i : ¬ (16 : Int) < (n : Int) := by omega
  by_cases h60 : 30 < n1
  · have h60i : (30 : Int) < (n1 : Int) := by omega
    go_enter Try.func6, Try.ntmps6
    go_wp2_with (first
      | (go_at_call 8; refine (rawake_any _).mono ?_; rintro e w1 ⟨rfl, hb1⟩))
    go_ret
    exact ⟨rfl, hb1⟩
  have h60i : ¬ (30 : Int) < (n1 : Int) := by omega
  have HNEW := Go.Lib.hid (fun w1 hb => qd_new w w1 hb 80 (by omega) (by omega))
  obtain ⟨i, hi, hz, hszi, hby⟩ := slTI.hi
  have HBY := Go.Lib.hid hby
  clear hby
  go_enter Try.func6, Try.ntmps6
  go_wp2_with (first
    | (go_at_call 8; refine (rawake_any _).mono ?_; rintro e w1 ⟨rfl, hb1⟩)
    | (go_at_call 9; refine (HNEW.out _ hb1).mono ?_; rintro e w2 ⟨p, rfl, hD⟩)
    | (go_at_call 10; refine (rq_open 80 40 2 1 hD (by omega) (by omega) (by omega) (by omega) (by omega) (by omega)).mono ?_; rintro e w3 ⟨r, rfl, hR⟩)
    | (at_make; refine wpList_make_full w3 rfl (.const (.int .i64 256)) (.const (.int .i64 256)) 45 rfl w3.heap.size 3 i (.int .i64 0) 1 slTI.ht hi hz hszi .i64 .i64 _ _ 256 rfl rfl (by simp) (by simp) (by rw [HBY.out]; omega) (by unfold maxLen; omega) (Nat.le_refl _) ?_; intro w4 ho4 hg4; obtain ⟨RA, bl4⟩ := row_made (by omega) ho4 hg4; clear ho4 hg4))
  have hR4 := hR.keepX (Y := fun k => k = w3.heap.size) bl4 (fun k hk => .inr (by omega)) (fun k hk => by rw [hk]; exact RA.lt)
  have hxl : ∀ k : Nat, k = w3.heap.size → w.heap.size ≤ k := fun k hk => by rw [hk]; exact (rq_low hR).size
  generalize w3.heap.size = g at *
  clear hR hD hb1 bl4
  go_loopw [11, 12] (fun v j wr => ∃ (m nn : Nat) (A : List Nat) (D : Dk) (R : Rp), m ≤ n ∧ nn ≤ m ∧ v = .int .i64 nn ∧ j = .int .i64 m ∧ HasRp (fun k => k = g) w wr r p D R ∧ Rw wr g (intsL A) 3 ∧ SlI nn A D R ∧ R.sealed = false) (fun _ j _ => n - (intOf j).toNat)
  case atStart => exact ⟨0, 0, List.replicate 256 0, Dk.fresh 80, rp0 40 2 1, by omega, by omega, rfl, rfl, hR4, RA, sl_begin, rfl⟩
  case round =>
    clear hR4 RA
    obtain ⟨m, nn, A, D, R, hm, hnm, rfl, rfl, hR, RA, hI, hns⟩ := hrel
    have hlow := rq_low hR
    have HI := Go.Lib.hid hI
    have HNS := Go.Lib.hid hns
    have hnn := hI.l1
    clear hI hns hnn
    by_cases hmn : m < n
    case pos =>
      have hmi : (m : Int) < (n : Int) := by omega
      obtain ⟨b4, o4, rfl, hc4⟩ := NB.RdB.at h (by omega)
      have q4w := hc4 m hmn
      clear hc4
      obtain ⟨Z, hZ⟩ : ∃ Z, (bf.getD m 0).toNat = Z := ⟨_, rfl⟩
      have hZ2 : Z < 256 := by have := (bf.getD m 0).toNat_lt; omega
      rw [hZ] at q4w
      clear hZ
      have q4 := (Below.cell hlow (World.block_lt_of_cell? _ _ q4w)).trans q4w
      have r4 := RA.cell Z _ (ints_at A Z (by rw [HI.out.al]; exact hZ2))
      have f4 := RA.free Z
      obtain ⟨T, hT⟩ : ∃ T, A.getD Z 0 = T := ⟨_, rfl⟩
      rw [hT] at r4
      have hZ2i : (Z : Int) < 256 := by omega
      have had := rq_add hR HI.out.calm (by omega) (by have := HI.out.tab; omega) 1 Z (by decide) (sl_b hZ2) none 0 0 [] NB.Rd.nil_mk
      by_cases hT0 : 0 < T
      · have hT0i : (0 : Int) < (T : Int) := by omega
        have hTz : ((T : Int) == 0) = false := by simp; omega
        rw [sl_old HI.out hZ2 (by rw [hT]; exact hT0), hT] at had
        have HAD := Go.Lib.hid had
        clear had hT
        go_wp2_with fail
        go_at_call 14
        refine HAD.out.mono ?_
        rintro e w5 ⟨rfl, hR5, K5⟩
        replace hR5 : HasRp (fun k => k = g) w w5 r p D R := hR5
        have RA5 := RA.keep K5 (fun hn => hn rfl)
        have r5 := RA5.cell Z _ (ints_at A Z (by rw [HI.out.al]; exact hZ2))
        have f5 := RA5.free Z
        have q5 := (Below.cell (rq_low hR5) (World.block_lt_of_cell? _ _ q4w)).trans q4w
        have hTe : A.getD Z 0 = T := by
          have h9 := RA.cell Z _ (ints_at A Z (by rw [HI.out.al]; exact hZ2))
          rw [r4] at h9
          injection h9 with h9
          injection h9 with _ h9
          omega
        rw [hTe] at r5
        clear hR RA K5 r4 f4 q4 hTe HAD
        simp only
        go_wp2_with fail
        exact ⟨⟨m + 1, nn, A, D, R, by omega, by omega, by simp, by simp, hR5, RA5, HI.out, HNS.out⟩, by simp [intOf]; omega⟩
      · obtain rfl : T = 0 := by omega
        obtain ⟨D', R', hs, hI2, hns2⟩ := sl_new HI.out (c := Z) (by omega) hZ2 (by rw [hT]; exact hT0) HNS.out
        rw [hs] at had
        have HAD := Go.Lib.hid had
        have HI2 := Go.Lib.hid hI2
        have HNS2 := Go.Lib.hid hns2
        have HT := Go.Lib.hid hT
        clear had hT hs hI2 hns2
        go_wp2_with fail
        go_at_call 14
        refine HAD.out.mono ?_
        rintro e w5 ⟨rfl, hR5, K5⟩
        replace hR5 : HasRp (fun k => k = g) w w5 r p D' R' := hR5
        have RA5 := RA.keep K5 (fun hn => hn rfl)
        have r5 := RA5.cell Z _ (ints_at A Z (by rw [HI.out.al]; exact hZ2))
        rw [HT.out] at r5
        have f5 := RA5.free Z
        have q5 := (Below.cell (rq_low hR5) (World.block_lt_of_cell? _ _ q4w)).trans q4w
        have hR6 := hR5.setX ⟨g, Z, none⟩ rfl hxl (.int .i64 ((nn : Int) + 1))
        have RA6 := RA5.set Z (.int .i64 ((nn : Int) + 1))
        rw [show ((nn : Int) + 1) = ((nn + 1 : Nat) : Int) by omega, ints_set] at RA6
        clear hR RA K5 r4 f4 q4 HAD
        simp only
        go_wp2_with fail
        exact ⟨⟨m + 1, nn + 1, A.set Z (nn + 1), D', R', by omega, by omega, by simp, by simp, hR6, RA6, HI2.out, HNS2.out⟩, by simp [intOf]; omega⟩
    obtain rfl : m = n := by omega
    have hmi : ¬ (m : Int) < (m : Int) := by omega
    have hse := rseal_any hR
    have HSE := Go.Lib.hid hse
    clear hse
    go_wp2_with fail
    go_at_call 18
    refine HSE.out.mono ?_
    rintro e w5 ⟨rfl, hR5, K5⟩
    have RA5 := RA.keep K5 (fun hn => hn rfl)
    have hI2 := sl_seal HI.out true
    obtain ⟨R', hR'⟩ : ∃ R' : Rp, R' = { R with sealed := true } := ⟨_, rfl⟩
    have hs' : R'.sealed = true := by rw [hR']
    rw [← hR'] at hR5 hI2
    have HI2 := Go.Lib.hid hI2
    have HS2 := Go.Lib.hid hs'
    clear hR RA K5 HSE HI HNS hI2 hs' hR' hlow
    go_wp2_with fail
    go_loopw [16] (fun j wr => ∃ (k : Nat), k ≤ n1 ∧ j = .int .i64 k ∧ HasRp (fun k => k = g) w wr r p D R' ∧ Rw wr g (intsL A) 3) (fun j _ => n1 - (intOf j).toNat)
    case atStart => exact ⟨0, Nat.zero_le _, rfl, hR5, RA5⟩
    case round =>
      clear hR5 RA5
      obtain ⟨k, hk, rfl, hR, RA⟩ := hrel
      have hlow := rq_low hR
      by_cases hkn : k < n1
      case pos =>
        have hki : (k : Int) < (n1 : Int) := by omega
        obtain ⟨b4, o4, rfl, hc4⟩ := NB.RdB.at h1 (by omega)
        have q4w := hc4 k hkn
        clear hc4
        obtain ⟨Z, hZ⟩ : ∃ Z, (af.getD k 0).toNat = Z := ⟨_, rfl⟩
        have hZ2 : Z < 256 := by have := (af.getD k 0).toNat_lt; omega
        rw [hZ] at q4w
        clear hZ
        have q4 := (Below.cell hlow (World.block_lt_of_cell? _ _ q4w)).trans q4w
        have r4 := RA.cell Z _ (ints_at A Z (by rw [HI2.out.al]; exact hZ2))
        have f4 := RA.free Z
        obtain ⟨T, hT⟩ : ∃ T, A.getD Z 0 = T := ⟨_, rfl⟩
        rw [hT] at r4
        have hZ2i : (Z : Int) < 256 := by omega
        have had := rq_add hR HI2.out.calm (by omega) (by have := HI2.out.tab; omega) 1 Z (by decide) (sl_b hZ2) none 0 0 [] NB.Rd.nil_mk
        by_cases hT0 : 0 < T
        · have hTn : T ≤ nn := by rw [← hT]; exact HI2.out.top Z
          obtain ⟨U, rfl⟩ : ∃ U, T = U + 1 := ⟨T - 1, by omega⟩
          have hT0i : (0 : Int) < (U : Int) + 1 := by omega
          rw [sl_old HI2.out hZ2 (by rw [hT]; exact hT0), hT, show (((U + 1 : Nat) : Int) - 1) = (U : Int) by omega] at had
          have HAD := Go.Lib.hid had
          have HT := Go.Lib.hid hT
          clear had hT
          go_wp2_with fail
          go_at_call 14
          refine HAD.out.mono ?_
          rintro e w5 ⟨rfl, hR5, K5⟩
          replace hR5 : HasRp (fun k => k = g) w w5 r p D R' := hR5
          have RA5 := RA.keep K5 (fun hn => hn rfl)
          have r5 := RA5.cell Z _ (ints_at A Z (by rw [HI2.out.al]; exact hZ2))
          have f5 := RA5.free Z
          have q5 := (Below.cell (rq_low hR5) (World.block_lt_of_cell? _ _ q4w)).trans q4w
          rw [HT.out] at r5
          replace r5 : w5.cell? ⟨g, Z, none⟩ = some (.int .i64 ((U : Int) + 1)) := r5
          clear hR RA K5 r4 f4 q4 HAD HT
          simp only
          go_wp2_with fail
          exact ⟨⟨k + 1, by omega, by simp, hR5, RA5⟩, by simp [intOf]; omega⟩
        · obtain rfl : T = 0 := by omega
          rw [sl_sealed HI2.out hZ2 (by rw [hT]; exact hT0) HS2.out] at had
          have HAD := Go.Lib.hid had
          have HT := Go.Lib.hid hT
          clear had hT
          go_wp2_with fail
          go_at_call 14
          refine HAD.out.mono ?_
          rintro e w5 ⟨rfl, hR5, K5⟩
          replace hR5 : HasRp (fun k => k = g) w w5 r p D R' := hR5
          have RA5 := RA.keep K5 (fun hn => hn rfl)
          have r5 := RA5.cell Z _ (ints_at A Z (by rw [HI2.out.al]; exact hZ2))
          have f5 := RA5.free Z
          have q5 := (Below.cell (rq_low hR5) (World.block_lt_of_cell? _ _ q4w)).trans q4w
          rw [HT.out] at r5
          replace r5 : w5.cell? ⟨g, Z, none⟩ = some (.int .i64 0) := r5
          clear hR RA K5 r4 f4 q4 HAD HT hT0
          simp only
          go_wp2_with fail
          exact ⟨⟨k + 1, by omega, by simp, hR5, RA5⟩, by simp [intOf]; omega⟩
      obtain rfl : k = n1 := by omega
      have hki : ¬ (k : Int) < (k : Int) := by omega
      have hst := rq_store hR HI2.out.calm (by omega) 0 0 2 1 (by decide) (by decide) none 0 0 [] NB.Rd.nil_mk
      obtain ⟨D3, R3, hs3, hc3, hm3, hl30, hl31, he3⟩ := sl_store HI2.out
      rw [hs3] at hst
      rw [HS2.out] at he3
      have HST := Go.Lib.hid hst
      have HC3 := Go.Lib.hid hc3
      have HM3 := Go.Lib.hid hm3
      have HL0 := Go.Lib.hid hl30
      have HL1 := Go.Lib.hid hl31
      have HE3 := Go.Lib.hid he3
      clear hst hs3 hc3 hm3 hl30 hl31 he3
      go_wp2_with fail
      go_at_call 11
      refine HST.out.mono ?_
      rintro e w5 ⟨rfl, hR5, K5⟩
      replace hR5 : HasRp (fun k => k = g) w w5 r p D3 R3 := hR5
      clear hR RA K5 HST HI2
      by_cases hnn0 : nn = 0
      · subst hnn0
        have hlens := rq_lens hR5 HC3.out (by omega) 1 (by rw [HM3.out]; omega) (fun _ h0 => by have h9 := HL0.out; rw [h0] at h9; simp at h9) (fun i h1 h2 => by rw [HM3.out] at h2; have h3 : i = 1 := (by omega); rw [h3]; exact List.eq_nil_of_length_eq_zero HL1.out)
        have HLENS := Go.Lib.hid hlens
        clear hlens
        simp only
        go_wp2_with fail
        go_at_call 12
        refine HLENS.out.mono ?_
        rintro e w8 ⟨a8, c8, rfl, hb8, hl8⟩
        obtain ⟨b8, o8, rfl, hc8⟩ := hl8 (by omega)
        have q8 := hc8 0 (by omega)
        rw [HL0.out, Nat.add_zero] at q8
        replace q8 : w8.cell? ⟨b8, o8, none⟩ = some (.int .u64 1) := q8
        have hR9 := hR5.below hb8
        have hse := rsealed_any hR9
        rw [HE3.out] at hse
        have HSE := Go.Lib.hid hse
        clear hse hl8 hc8
        go_wp2_with (go_at_call 19; refine HSE.out.mono ?_; rintro e w' ⟨rfl, e2⟩; subst w')
        go_ret
        exact ⟨rfl, rq_low hR9⟩
      · have g5 : (0 : Int) < (nn : Int) := by omega
        have g6 : ((nn : Int) == 0) = false := by simp; omega
        have hwn : IntKind.u64.wrap (nn : Int) = (nn : Int) := IntWalk.u64_in _ ⟨by omega, by omega⟩
        have hlens := rq_lens hR5 HC3.out (by omega) 2 (by rw [HM3.out]; omega) (fun _ h0 => by have h9 := HL1.out; rw [h0] at h9; simp at h9; omega) (fun i h1 h2 => by rw [HM3.out] at h2; omega)
        have HLENS := Go.Lib.hid hlens
        clear hlens
        simp only
        go_wp2_with fail
        go_at_call 12
        refine HLENS.out.mono ?_
        rintro e w8 ⟨a8, c8, rfl, hb8, hl8⟩
        obtain ⟨b8, o8, rfl, hc8⟩ := hl8 (by omega)
        have q8 := hc8 0 (by omega)
        rw [HL0.out, Nat.add_zero] at q8
        replace q8 : w8.cell? ⟨b8, o8, none⟩ = some (.int .u64 1) := q8
        have q81 := hc8 1 (by omega)
        rw [HL1.out] at q81
        have hR9 := hR5.below hb8
        have hse := rsealed_any hR9
        rw [HE3.out] at hse
        have HSE := Go.Lib.hid hse
        clear hse hl8 hc8
        go_wp2_with (go_at_call 19; refine HSE.out.mono ?_; rintro e w' ⟨rfl, e2⟩; subst w')
        go_ret
        exact ⟨rfl, rq_low hR9⟩
end Go.Proofs.Ytjfidhjnbcmhfaa
