/- The walk for the statement FrameRow. -/
import Derived.Test.YtcipghogcehfnaaFlr
import Derived.Test.YtcipghogcehfnaaOst
namespace Go.Proofs.Ytcipghogcehfnaa
open Go.RowKit
open Go.NB (Rd Kp Stp Off Dis Rr encU oneB dB Rw digs)

/-- The first frames of a row. -/
def preF (L : List (List UInt8)) (k : Nat) : List Fr := (List.range k).map fun i => (UInt8.ofNat i, L.getD i [])
def catF (L : List (List UInt8)) (k : Nat) : List UInt8 := (preF L k).flatMap fbL
def SmallF (L : List (List UInt8)) (k : Nat) : Prop := ∀ i, i < k → (L.getD i []).length ≤ 100
theorem catF_succ (L : List (List UInt8)) (k : Nat) : catF L (k + 1) = catF L k ++ fbL (UInt8.ofNat k, L.getD k []) := by
  simp [catF, preF, List.range_succ]
theorem fbL_le (f : Fr) (h : f.2.length ≤ 100) : (fbL f).length ≤ 114 := by
  have := fbL_len f
  have hE : (encU f.2.length).length ≤ 9 := NB.encU_len (by omega)
  omega
theorem catF_le (L : List (List UInt8)) : ∀ k, SmallF L k → (catF L k).length ≤ 114 * k
  | 0, _ => by simp [catF, preF]
  | k + 1, h => by
    have h1 := catF_le L k (fun i hi => h i (by omega))
    have h2 := fbL_le (UInt8.ofNat k, L.getD k []) (h k (by omega))
    rw [catF_succ, List.length_append]
    omega
theorem preF_len (L : List (List UInt8)) (k : Nat) : (preF L k).length = k := by simp [preF]
theorem fall_cat : ∀ (fs : List Fr) (t : List UInt8), (∀ f ∈ fs, f.2.length ≤ 65535) → (fgetM t).2.2 ≠ 0 → fallM (fs.flatMap fbL ++ t) = (fs, (fs.flatMap fbL).length)
  | [], t, _, ht => by simpa using fall_no ht
  | f :: fs, t, h, ht => by
    have h1 := fget_put f (h f (by simp)) (fs.flatMap fbL ++ t)
    have h2 := fall_cat fs t (fun g hg => h g (by simp [hg])) ht
    rw [List.flatMap_cons, List.append_assoc, fall_ok h1, List.drop_left' rfl, h2]
    simp
theorem fall_pre (L : List (List UInt8)) (k : Nat) (h : SmallF L k) (t : List UInt8) (ht : (fgetM t).2.2 ≠ 0) : fallM (catF L k ++ t) = (preF L k, (catF L k).length) := by
  refine fall_cat _ t (fun f hf => ?_) ht
  obtain ⟨i, hi, rfl⟩ := List.mem_map.1 hf
  have := h i (List.mem_range.1 hi)
  simp only
  omega
theorem preF_at (L : List (List UInt8)) (n k : Nat) (h : k < n) : (preF L n)[k]? = some (UInt8.ofNat k, L.getD k []) := by
  simp [preF, h]
theorem last_cut (b : List UInt8) (h : b.length ≤ 100) (m : Nat) (hm : m < (fbL (99, b)).length) : (fgetM ((fbL (99, b)).take m)).2.2 ≠ 0 := by
  have h1 := fget_put (99, b) (by simp only; omega) []
  rw [List.append_nil] at h1
  rw [fget_cut h1 m hm]
  decide
theorem last_set (b : List UInt8) (h : b.length ≤ 100) (r : Nat) (hr : r < 5) (x : UInt8) (hx : x ≠ 0) :
    (fgetM ((fbL (99, b)).set ((fbL (99, b)).length - 1 - r) ((fbL (99, b)).getD ((fbL (99, b)).length - 1 - r) 0 ^^^ x))).2.2 ≠ 0 := by
  have hl := fbL_len (99, b)
  simp only at hl
  rw [fget_spoil (99, b) (by simp only; omega) _ (by simp only; omega) (by omega) _ (fun e => hx ((NB.xor_self_iff _ _).1 e.symm))]
  decide

/-- What stands behind the loop that puts. -/
structure RowJ (w : World) (L : List (List UInt8)) (k : Nat) (v : Value) (wr : World) : Prop where
  own : wr.ownsRow w.heap.size 5 1 v (catF L k).length ((catF L k).map NB.u8v)
  bel : Below w.heap.size w wr
  sm : SmallF L k

set_option maxRecDepth 100000 in
set_option maxHeartbeats 8000000 in
theorem law_frow (w : World) (a : Option Addr) (n c : Nat) (L : List (List UInt8)) (a' : Option Addr) (n' c' : Nat) (b : List UInt8) (q x : Int) (cut : Bool) (h : NB.RdBB w a n c L) (h' : NB.RdB w a' n' c' b) (hq : (Lit.int .u16 q).wf = true) (hx : (Lit.int .u8 x).wf = true) :
    Calls Try.prog 6 #[.slice a n c, .slice a' n' c', .int .u16 q, .int .u8 x, .bool cut] w fun e w' => e = .returned (.bool true) ∧ Below w.heap.size w w' := by
  have hbd := h.bound
  have hbd' := Rd.bound h'
  obtain ⟨x, rfl⟩ : ∃ K : UInt8, x = (K.toNat : Int) := ⟨UInt8.ofNat x.toNat, (NB.u8_of_wf hx).symm⟩
  have hqb := bounds_u16 hq
  obtain ⟨q, rfl⟩ := Int.eq_ofNat_of_zero_le hqb.1
  clear hq hx
  by_cases hn : n ≤ 8
  case neg =>
    have hnz : ¬ (n : Int) ≤ 8 := by omega
    go_enter Try.func6, Try.ntmps6
    go_wp2_with (go_at_call 9; refine (fawake_any _).mono ?_; rintro e w1 ⟨rfl, hb1⟩)
    go_ret
    exact ⟨rfl, hb1⟩
  have hnz : (n : Int) ≤ 8 := by omega
  by_cases hn' : n' ≤ 100
  case neg =>
    have hnz' : ¬ (n' : Int) ≤ 100 := by omega
    go_enter Try.func6, Try.ntmps6
    go_wp2_with (go_at_call 9; refine (fawake_any _).mono ?_; rintro e w1 ⟨rfl, hb1⟩)
    go_ret
    exact ⟨rfl, hb1⟩
  have hnz' : (n' : Int) ≤ 100 := by omega
  by_cases hx0 : x = 0
  case pos =>
    subst hx0
    go_enter Try.func6, Try.ntmps6
    go_wp2_with (go_at_call 9; refine (fawake_any _).mono ?_; rintro e w1 ⟨rfl, hb1⟩)
    go_ret
    exact ⟨rfl, hb1⟩
  have hx1 : ((x.toNat : Int) == 0) = false := by
    have : ¬ (x.toNat : Int) = 0 := fun e => hx0 (by
      have : x.toNat = 0 := by omega
      exact UInt8.toNat_inj.1 this)
    simpa using this
  have HSZ := Go.Lib.hid (And.intro h.len (NB.RdB.size h'))
  have HX0 := Go.Lib.hid hx0
  clear hx0
  go_enter Try.func6, Try.ntmps6
  go_wp2_with fail
  refine (fawake_any _).mono ?_
  rintro e w1 ⟨rfl, hb1⟩
  have J0 : RowJ w L 0 (.slice none 0 0) w1 := ⟨⟨by simp [catF, preF], .inl ⟨rfl, rfl⟩⟩, hb1, fun i hi => absurd hi (by omega)⟩
  clear hb1
  go_wp2_with fail
  go_loopw [12, 13] (fun v i wr => ∃ (k m : Nat) (x : Option Addr) (cx : Nat), k ≤ n ∧ i = .int .i64 (k : Int) ∧ v = .slice x m cx ∧ m = (catF L k).length ∧ RowJ w L k v wr) (fun _ i _ => n - (intOf i).toNat)
  case atStart => exact ⟨0, 0, none, 0, by omega, rfl, rfl, by simp [catF, preF], J0⟩
  case round =>
    clear J0
    obtain ⟨k, m, xa, cx, hk, rfl, rfl, hm, J⟩ := hrel
    have hm8 : m ≤ 912 := by
      have := catF_le L k J.sm
      omega
    have HM := Go.Lib.hid hm; clear hm
    by_cases hlt : k < n
    case pos =>
      have hki : (k : Int) < (n : Int) := by omega
      obtain ⟨bb, bo, rfl, hcell⟩ := (h.below J.bel).pos (by omega)
      obtain ⟨ai, ni, ci, hci, hri⟩ := hcell k hlt
      clear hcell
      have hsi := NB.RdB.size hri
      by_cases h100 : ni ≤ 100
      case neg =>
        have h100i : ¬ (ni : Int) ≤ 100 := by omega
        clear hsi
        have B := J.bel
        clear J
        go_wp2_with fail
        go_ret
        exact ⟨rfl, B⟩
      have h100i : (ni : Int) ≤ 100 := by omega
      have cp := fun w h => fput_any w (UInt8.ofNat k) ai ni ci (L.getD k []) h
      rw [fput_is (f := (UInt8.ofNat k, L.getD k [])) (by simp only; omega)] at cp
      have hk8 : ((UInt8.ofNat k).toNat : Int) = (k : Int) := by rw [UInt8.toNat_ofNat']; omega
      rw [hk8] at cp
      have hfl := fbL_le (UInt8.ofNat k, L.getD k []) (by simp only; omega)
      have hsm : SmallF L (k + 1) := fun i hi => by
        rcases Nat.lt_or_ge i k with h1 | h1
        · exact J.sm i h1
        · obtain rfl : i = k := by omega
          omega
      have hcs := catF_succ L k
      have HCS := Go.Lib.hid hcs; clear hcs
      have HSM := Go.Lib.hid hsm; clear hsm
      have HSI := Go.Lib.hid hsi; clear hsi
      have HCP := Go.Lib.hid cp; clear cp
      have HK8 := Go.Lib.hid hk8; clear hk8
      generalize fbL (UInt8.ofNat k, L.getD k []) = Z at *
      go_wp2_with fail
      refine (HCP.out _ hri).mono ?_
      rintro e w3 ⟨a3, c3, rfl, ho3, hb3⟩
      unfold NB.OwnB at ho3
      simp only at ho3 ⊢
      obtain ⟨a3', c3', e3, R3, _, _⟩ := NB.rd_of_own ho3
      cases e3
      have own3 := NB.own_keep J.own hb3
      rw [← HM.out] at own3
      have B3 := NB.bel J.bel hb3 J.bel.size
      clear ho3 hb3 J hri hci
      go_wp2_with (at_builtin; refine NB.wpList_append_rd rfl (.tmp 62) (.tmp 63) 22 rfl w.heap.size slTB _ m _ rfl own3 a3 Z.length c3 (Z.map NB.u8v) rfl R3 (NB.u8v_one Z) (by omega) (by unfold maxLen; omega) B3.size ?_; intro v4 w4 ho4 hg4)
      have B4 := B3.grown hg4 B3.size (fun k e => (own3.lt k e).1)
      obtain ⟨a4, c4, rfl, _⟩ := NB.rd_of_own ho4
      go_roundw
      case rel =>
        exact ⟨k + 1, m + Z.length, a4, c4, by omega, by go_num, rfl, by rw [HCS.out, List.length_append, ← HM.out], by rw [HCS.out, List.length_append, ← HM.out, List.map_append]; exact ho4, B4, HSM.out⟩
      case measure => simp [intOf]; omega
    obtain rfl : k = n := by omega
    have hki : ¬ (k : Int) < (k : Int) := by omega
    have cp := fun w h => fput_any w 99 a' n' c' b h
    rw [fput_is (f := (99, b)) (by simp only; have := HSZ.out.2; omega)] at cp
    have hb100 : b.length ≤ 100 := by have := HSZ.out.2; omega
    have hfl := fbL_le (99, b) hb100
    have hf6 : 6 ≤ (fbL (99, b)).length := by
      have := fbL_len (99, b)
      simp [encU] at this
      omega
    have hcut := last_cut b hb100
    have hset := fun r hr => last_set b hb100 r hr x HX0.out
    have hall := fun t ht => fall_pre L k J.sm t ht
    have hpl := preF_len L k
    have hpa := preF_at L k
    rw [← HM.out] at hall
    have own1 := J.own
    rw [← HM.out] at own1
    have B1 := J.bel
    have hbase := J.bel.size
    have HBASE := Go.Lib.hid hbase
    clear hbase
    have HCP := Go.Lib.hid cp; have HCUT := Go.Lib.hid hcut; have HSET := Go.Lib.hid hset; have HALL := Go.Lib.hid hall; have HPL := Go.Lib.hid hpl; have HPA := Go.Lib.hid hpa
    have hEl := fbL_len (99, b)
    clear hb100 cp hcut hset hall hpl hpa J HX0 HM hEl
    generalize preF L k = FS at *
    generalize catF L k = CT at *
    generalize fbL (99, b) = Z at *
    have hZi : (Z.length : Int) ≤ 114 := by omega
    have hZ6 : (6 : Int) ≤ (Z.length : Int) := by omega
    go_wp2_with fail
    refine (HCP.out _ (h'.below B1)).mono ?_
    rintro e w3 ⟨a3, c3, rfl, ho3, hb3⟩
    unfold NB.OwnB at ho3
    simp only at ho3 ⊢
    have own3 := NB.own_keep own1 hb3
    have B3 := NB.bel B1 hb3 B1.size
    have hfar : ∀ g, (Value.slice xa m cx).ownBlock = some g → g < wr.heap.size := fun g e => (own1.lt g e).2
    have HFAR := Go.Lib.hid hfar
    clear hfar own1 B1 hb3 HCP
    cases cut with
    | true =>
      obtain ⟨M, hM⟩ : ∃ M, M = q % Z.length := ⟨_, rfl⟩
      have hMl : M < Z.length := by rw [hM]; exact Nat.mod_lt _ (by omega)
      have hMi : ((q : Int) % (Z.length : Int)) = (M : Int) := by rw [hM]; simp
      have hbad := HCUT.out M hMl
      have HBAD := Go.Lib.hid hbad
      obtain ⟨a3', c3', e3, R3, _, _⟩ := NB.rd_of_own ho3
      cases e3
      have R3 : NB.RdB w3 a3 Z.length c3 Z := R3
      have hle3 := R3.le
      have hmx3 := R3.max
      have RT := NB.rdB_cut R3 M (by omega)
      have hMc : (M : Int) ≤ (c3 : Int) := by omega
      have hMz : (M : Int) < (Z.length : Int) := by omega
      have hTl : (Z.take M).length = M := by rw [List.length_take]; omega
      have HTL := Go.Lib.hid hTl
      clear hM hbad ho3 R3 hTl HSET HCUT HFAR
      generalize Z.take M = T at *
      go_wp2_with (at_builtin; refine NB.wpList_append_rd rfl (.tmp 101) (.tmp 102) 22 rfl w.heap.size slTB _ m _ rfl own3 a3 M c3 (T.map NB.u8v) rfl RT (NB.u8v_one T) (by omega) (by unfold maxLen; omega) B3.size ?_; intro v6 w6 ho6 hg6)
      have B6 := B3.grown hg6 B3.size (fun k e => (own3.lt k e).1)
      clear hMi B3 own3 hg6 RT hMc hMz hle3 hmx3
      obtain ⟨a6, c6, rfl, hr6, _, _⟩ := NB.rd_of_own ho6
      have R6 : NB.RdB w6 a6 (m + M) c6 (CT ++ T) := by show Rd 1 _ _ _ _ ((CT ++ T).map NB.u8v); rw [List.map_append]; exact hr6
      clear hr6 ho6
      go_wp2_with fail
      refine (fall_any _ a6 (m + M) c6 _ R6 (by omega)).mono ?_
      rw [HALL.out T HBAD.out]
      rintro e w7 ⟨a7, c7, l7, rfl, hr7, hi7, hl7, hb7⟩
      simp only at hl7 ⊢
      have hlk : l7.length = k := by rw [← HPL.out, ← hl7, List.length_map]
      have B7 := NB.bel B6 hb7 B6.size
      rw [hlk] at hr7 ⊢
      have hbd7 := Rd.bound hr7
      have hle7 := hr7.le
      have hxs : ∀ j x, j < k → l7[j]? = some x → x.k = UInt8.ofNat j ∧ x.b = L.getD j [] := fun j x hj hx => by
        have h1 := HPA.out j hj
        rw [← hl7, List.getElem?_map, hx] at h1
        have h2 := Option.some.inj h1
        exact ⟨congrArg Prod.fst h2, congrArg Prod.snd h2⟩
      have HXS := Go.Lib.hid hxs; have HI7 := Go.Lib.hid hi7; have HLK := Go.Lib.hid hlk
      clear hl7 hlk hxs hi7 hb7 R6 B6 HALL HPA HPL HBAD HTL
      go_wp2_with fail
      go_loopw [21] (fun x wr => ∃ j : Nat, j ≤ k ∧ x = .int .i64 (j : Int) ∧ Below w7.heap.size w7 wr) (fun x _ => k - (intOf x).toNat)
      case atStart => exact ⟨0, by omega, rfl, Below.refl _ _⟩
      case round =>
        obtain ⟨j, hj, rfl, hB⟩ := hrel
        by_cases hlt : j < k
        case neg =>
          have B8 := NB.bel B7 hB B7.size
          have hji : ¬ (j : Int) < (k : Int) := by omega
          go_wp2_with fail
          go_ret
          exact ⟨rfl, B8⟩
        have hji : (j : Int) < (k : Int) := by omega
        obtain ⟨x1, hx1⟩ : ∃ x, l7[j]? = some x := ⟨_, List.getElem?_eq_getElem (by rw [HLK.out]; exact hlt)⟩
        obtain ⟨v0, v1⟩ := its_at l7 j x1 hx1
        obtain ⟨x2, x3⟩ := HXS.out j x1 hlt hx1
        have hj8 : ((UInt8.ofNat j).toNat : Int) = (j : Int) := by rw [UInt8.toNat_ofNat']; omega
        rw [x2, hj8] at v0
        obtain ⟨b7, o7, rfl, hc7⟩ := Rd.pos (hr7.below hB) (by omega)
        have p0 := hc7 _ _ v0
        have p1 := hc7 _ _ v1
        rw [← Nat.add_assoc] at p1
        have rx := Rd.below (HI7.out x1 (List.mem_of_getElem? hx1)) hB
        rw [x3] at rx
        obtain ⟨bb, bo, rfl, hcell⟩ := (h.below (NB.bel B7 hB B7.size)).pos (by omega)
        obtain ⟨ai, ni, ci, q1, ry⟩ := hcell j hlt
        have hjw : IntKind.u8.wrap (j : Int) = (j : Int) := by rw [IntKind.wrap_u8]; omega
        clear v0 v1 hc7 hcell hx1 x2 x3 hj8
        go_wp2_with fail
        refine NB.wp_region_t [] (by kernel_rfl) ?_
        have dd := dB wr
        have B9 := hB.drew
        have rx8 := Rd.below rx dd
        have ry8 := Rd.below ry dd
        have lc := fun (b o : Nat) (v : Value) (hc : wr.cell? ⟨b, o, none⟩ = some v) => (dd.cell (p := ⟨b, o, none⟩) (World.block_lt_of_cell? wr _ hc)).trans hc
        replace p0 := lc _ _ _ p0; replace p1 := lc _ _ _ p1; replace q1 := lc _ _ _ q1
        clear lc dd rx ry hB
        generalize wr.drew = w8 at *
        refine NB.t_p 0 rfl (by kernel_rfl) (fun K hK => ?_); go_simp; refine hK _ ?_; clear hK K
        refine NB.t_p 1 rfl (by kernel_rfl) (fun K hK => ?_); go_simp; refine hK _ ?_; clear hK K
        refine NB.t_p 2 rfl (by kernel_rfl) (fun K hK => ?_); go_simp; refine hK _ ?_; clear hK K
        refine NB.t_p 3 rfl (by kernel_rfl) (fun K hK => ?_); go_simp; refine hK _ ?_; clear hK K
        refine NB.t_r 4 [7, 8, 9, 10, 11, 12, 13, 14, 15, 16, 17, 18, 19, 20, 21] rfl (by kernel_rfl) (by kernel_rfl) (by go_simp) _ (fun w' hw' => NB.run_op_load rfl rfl Try.underlying5 rfl p0 hw') (fun K hK => ?_); go_simp; refine hK _ ?_; clear hK K
        refine NB.t_p 5 rfl (by kernel_rfl) (fun K hK => ?_); go_simp; refine hK _ ?_; clear hK K
        refine NB.t_p 6 rfl (by kernel_rfl) (fun K hK => ?_); go_simp; refine hK _ ?_; clear hK K
        refine NB.t_p 7 rfl (by kernel_rfl) (fun K hK => ?_); go_simp; refine hK _ ?_; clear hK K
        refine NB.t_p 8 rfl (by kernel_rfl) (fun K hK => ?_); go_simp; refine hK _ ?_; clear hK K
        refine NB.t_p 9 rfl (by kernel_rfl) (fun K hK => ?_); go_simp; refine hK _ ?_; clear hK K
        refine NB.t_p 10 rfl (by kernel_rfl) (fun K hK => ?_); go_simp; refine hK _ ?_; clear hK K
        refine NB.t_p 11 rfl (by kernel_rfl) (fun K hK => ?_); go_simp; refine hK _ ?_; clear hK K
        refine NB.t_p 12 rfl (by kernel_rfl) (fun K hK => ?_); go_simp; refine hK _ ?_; clear hK K
        refine NB.t_r 13 [14, 20, 21] rfl (by kernel_rfl) (by kernel_rfl) (by go_simp) _ (fun w' hw' => NB.run_op_load rfl rfl Try.underlying22 rfl p1 hw') (fun K hK => ?_); go_simp; refine hK _ ?_; clear hK K
        refine NB.t_r 14 [20, 21] rfl (by kernel_rfl) (by kernel_rfl) (by go_simp) _ (fun w' hw' => NB.run_op_conv_str Try.underlying22 Try.underlying5 Try.underlying9 rfl rfl (Rd.below rx8 hw')) (fun K hK => ?_); go_simp; refine hK _ ?_; clear hK K
        refine NB.t_p 15 rfl (by kernel_rfl) (fun K hK => ?_); go_simp; refine hK _ ?_; clear hK K
        refine NB.t_p 16 rfl (by kernel_rfl) (fun K hK => ?_); go_simp; refine hK _ ?_; clear hK K
        refine NB.t_p 17 rfl (by kernel_rfl) (fun K hK => ?_); go_simp; refine hK _ ?_; clear hK K
        refine NB.t_r 18 [19, 20, 21] rfl (by kernel_rfl) (by kernel_rfl) (by go_simp) _ (fun w' hw' => NB.run_op_load rfl rfl Try.underlying22 rfl q1 hw') (fun K hK => ?_); go_simp; refine hK _ ?_; clear hK K
        refine NB.t_r 19 [20, 21] rfl (by kernel_rfl) (by kernel_rfl) (by go_simp) _ (fun w' hw' => NB.run_op_conv_str Try.underlying22 Try.underlying5 Try.underlying9 rfl rfl (Rd.below ry8 hw')) (fun K hK => ?_); go_simp; refine hK _ ?_; clear hK K
        refine NB.t_p 20 rfl (by kernel_rfl) (fun K hK => ?_); go_simp; refine hK _ ?_; clear hK K
        refine NB.t_p 21 rfl (by kernel_rfl) (fun K hK => ?_); go_simp; refine hK _ ?_; clear hK K
        refine NB.t_end (by kernel_rfl) ?_
        go_wp2_with fail
        go_roundw
        case rel => exact ⟨j + 1, by omega, by go_num, B9⟩
        case measure => simp [intOf]; omega
    | false =>
      obtain ⟨r, hr⟩ : ∃ r, r = q % 5 := ⟨_, rfl⟩
      have hr5 : r < 5 := by omega
      have hbad := HSET.out r hr5
      obtain ⟨i, hi⟩ : ∃ i, i = Z.length - 1 - r := ⟨_, rfl⟩
      have hi2 : i < Z.length := by omega
      rw [← hi] at hbad
      have hii : ((Z.length : Int) - 1 - ((q : Int) % 5)) = (i : Int) := by omega
      have HBAD := Go.Lib.hid hbad
      have hzi : (i : Int) < (Z.length : Int) := by omega
      obtain ⟨g, cc, e2, hbg, hlg, hci, hfi, _, _, ho4⟩ := NB.own_setB ho3 i hi2 (.int .u8 ((Z.getD i 0 ^^^ x).toNat : Int))
      cases e2
      obtain ⟨a2', c2', e2, hr2, _, _⟩ := NB.rd_of_own ho3
      cases e2
      rw [List.getElem?_map, List.getElem?_eq_getElem hi2, Option.map_some, NB.u8v] at hci
      have hgd : Z.getD i 0 = Z[i] := by rw [List.getD_eq_getElem?_getD, List.getElem?_eq_getElem hi2]; rfl
      rw [← hgd] at hci
      have hxr := NB.xor_u8 (Z.getD i 0) x
      have hle2 := hr2.le
      have hmx2 := hr2.max
      have B4 : Below w.heap.size w (w3.setCell ⟨g, i, none⟩ (.int .u8 ((Z.getD i 0 ^^^ x).toNat : Int))) := B3.setCell (p := ⟨g, i, none⟩) (by simp only; exact Nat.le_trans HBASE.out hbg) _
      have own4 := (((Kp.refl (fun k => k = g) w3).setCell (x := ⟨g, i, none⟩) (.inl rfl) (.int .u8 ((Z.getD i 0 ^^^ x).toNat : Int))) : Kp (fun k => k = g) w3 _).own own3 (fun k e hk => by have := HFAR.out k e; omega)
      have R4 : NB.RdB (w3.setCell ⟨g, i, none⟩ (.int .u8 ((Z.getD i 0 ^^^ x).toNat : Int))) (some ⟨g, 0, none⟩) Z.length c3 (Z.set i (Z.getD i 0 ^^^ x)) := by
        obtain ⟨a5, c5, e5, hr5, _⟩ := NB.rd_of_own ho4
        cases e5
        show Rd 1 _ _ _ _ ((Z.set i (Z.getD i 0 ^^^ x)).map NB.u8v)
        rw [List.map_set]
        exact hr5
      have hxn : ((Z.getD i 0 ^^^ x).toNat : Int) = (((Z.getD i 0).toNat ^^^ x.toNat : Nat) : Int) := by rw [UInt8.toNat_xor]
      rw [hxn] at B4 own4 R4 hxr
      obtain ⟨M, hMe⟩ : ∃ M, M = Z.length := ⟨_, rfl⟩
      have hTl : (Z.set i (Z.getD i 0 ^^^ x)).length = M := by rw [List.length_set, hMe]
      have HTL := Go.Lib.hid hTl
      have HB4 := Go.Lib.hid B4; have HO4 := Go.Lib.hid own4; have HR4 := Go.Lib.hid R4
      clear hr hi hbad ho3 ho4 hxn hr2 hgd B4 own4 R4 hTl HSET HCUT HFAR own3 B3
      generalize Z.set i (Z.getD i 0 ^^^ x) = T at *
      generalize Z.getD i 0 = y at *
      rw [← hMe] at HR4 hii hzi hZi hZ6 hle2 hfl hf6 hi2 ⊢
      clear hMe
      go_wp2_with (at_builtin; refine NB.wpList_append_rd rfl (.tmp 101) (.tmp 102) 22 rfl w.heap.size slTB _ m _ rfl HO4.out _ M c3 (T.map NB.u8v) rfl HR4.out (NB.u8v_one T) (by omega) (by unfold maxLen; omega) HB4.out.size ?_; intro v6 w6 ho6 hg6)
      have B6 := HB4.out.grown hg6 HB4.out.size (fun k e => (HO4.out.lt k e).1)
      clear hii hxr hci hfi HB4 HO4 HR4 hg6 hle2 hmx2
      obtain ⟨a6, c6, rfl, hr6, _, _⟩ := NB.rd_of_own ho6
      have R6 : NB.RdB w6 a6 (m + M) c6 (CT ++ T) := by show Rd 1 _ _ _ _ ((CT ++ T).map NB.u8v); rw [List.map_append]; exact hr6
      clear hr6 ho6
      go_wp2_with fail
      refine (fall_any _ a6 (m + M) c6 _ R6 (by omega)).mono ?_
      rw [HALL.out T HBAD.out]
      rintro e w7 ⟨a7, c7, l7, rfl, hr7, hi7, hl7, hb7⟩
      simp only at hl7 ⊢
      have hlk : l7.length = k := by rw [← HPL.out, ← hl7, List.length_map]
      have B7 := NB.bel B6 hb7 B6.size
      rw [hlk] at hr7 ⊢
      have hbd7 := Rd.bound hr7
      have hle7 := hr7.le
      have hxs : ∀ j x, j < k → l7[j]? = some x → x.k = UInt8.ofNat j ∧ x.b = L.getD j [] := fun j x hj hx => by
        have h1 := HPA.out j hj
        rw [← hl7, List.getElem?_map, hx] at h1
        have h2 := Option.some.inj h1
        exact ⟨congrArg Prod.fst h2, congrArg Prod.snd h2⟩
      have HXS := Go.Lib.hid hxs; have HI7 := Go.Lib.hid hi7; have HLK := Go.Lib.hid hlk
      clear hl7 hlk hxs hi7 hb7 R6 B6 HALL HPA HPL HBAD HTL
      go_wp2_with fail
      go_loopw [21] (fun x wr => ∃ j : Nat, j ≤ k ∧ x = .int .i64 (j : Int) ∧ Below w7.heap.size w7 wr) (fun x _ => k - (intOf x).toNat)
      case atStart => exact ⟨0, by omega, rfl, Below.refl _ _⟩
      case round =>
        obtain ⟨j, hj, rfl, hB⟩ := hrel
        by_cases hlt : j < k
        case neg =>
          have B8 := NB.bel B7 hB B7.size
          have hji : ¬ (j : Int) < (k : Int) := by omega
          go_wp2_with fail
          go_ret
          exact ⟨rfl, B8⟩
        have hji : (j : Int) < (k : Int) := by omega
        obtain ⟨x1, hx1⟩ : ∃ x, l7[j]? = some x := ⟨_, List.getElem?_eq_getElem (by rw [HLK.out]; exact hlt)⟩
        obtain ⟨v0, v1⟩ := its_at l7 j x1 hx1
        obtain ⟨x2, x3⟩ := HXS.out j x1 hlt hx1
        have hj8 : ((UInt8.ofNat j).toNat : Int) = (j : Int) := by rw [UInt8.toNat_ofNat']; omega
        rw [x2, hj8] at v0
        obtain ⟨b7, o7, rfl, hc7⟩ := Rd.pos (hr7.below hB) (by omega)
        have p0 := hc7 _ _ v0
        have p1 := hc7 _ _ v1
        rw [← Nat.add_assoc] at p1
        have rx := Rd.below (HI7.out x1 (List.mem_of_getElem? hx1)) hB
        rw [x3] at rx
        obtain ⟨bb, bo, rfl, hcell⟩ := (h.below (NB.bel B7 hB B7.size)).pos (by omega)
        obtain ⟨ai, ni, ci, q1, ry⟩ := hcell j hlt
        have hjw : IntKind.u8.wrap (j : Int) = (j : Int) := by rw [IntKind.wrap_u8]; omega
        clear v0 v1 hc7 hcell hx1 x2 x3 hj8
        go_wp2_with fail
        refine NB.wp_region_t [] (by kernel_rfl) ?_
        have dd := dB wr
        have B9 := hB.drew
        have rx8 := Rd.below rx dd
        have ry8 := Rd.below ry dd
        have lc := fun (b o : Nat) (v : Value) (hc : wr.cell? ⟨b, o, none⟩ = some v) => (dd.cell (p := ⟨b, o, none⟩) (World.block_lt_of_cell? wr _ hc)).trans hc
        replace p0 := lc _ _ _ p0; replace p1 := lc _ _ _ p1; replace q1 := lc _ _ _ q1
        clear lc dd rx ry hB
        generalize wr.drew = w8 at *
        refine NB.t_p 0 rfl (by kernel_rfl) (fun K hK => ?_); go_simp; refine hK _ ?_; clear hK K
        refine NB.t_p 1 rfl (by kernel_rfl) (fun K hK => ?_); go_simp; refine hK _ ?_; clear hK K
        refine NB.t_p 2 rfl (by kernel_rfl) (fun K hK => ?_); go_simp; refine hK _ ?_; clear hK K
        refine NB.t_p 3 rfl (by kernel_rfl) (fun K hK => ?_); go_simp; refine hK _ ?_; clear hK K
        refine NB.t_r 4 [7, 8, 9, 10, 11, 12, 13, 14, 15, 16, 17, 18, 19, 20, 21] rfl (by kernel_rfl) (by kernel_rfl) (by go_simp) _ (fun w' hw' => NB.run_op_load rfl rfl Try.underlying5 rfl p0 hw') (fun K hK => ?_); go_simp; refine hK _ ?_; clear hK K
        refine NB.t_p 5 rfl (by kernel_rfl) (fun K hK => ?_); go_simp; refine hK _ ?_; clear hK K
        refine NB.t_p 6 rfl (by kernel_rfl) (fun K hK => ?_); go_simp; refine hK _ ?_; clear hK K
        refine NB.t_p 7 rfl (by kernel_rfl) (fun K hK => ?_); go_simp; refine hK _ ?_; clear hK K
        refine NB.t_p 8 rfl (by kernel_rfl) (fun K hK => ?_); go_simp; refine hK _ ?_; clear hK K
        refine NB.t_p 9 rfl (by kernel_rfl) (fun K hK => ?_); go_simp; refine hK _ ?_; clear hK K
        refine NB.t_p 10 rfl (by kernel_rfl) (fun K hK => ?_); go_simp; refine hK _ ?_; clear hK K
        refine NB.t_p 11 rfl (by kernel_rfl) (fun K hK => ?_); go_simp; refine hK _ ?_; clear hK K
        refine NB.t_p 12 rfl (by kernel_rfl) (fun K hK => ?_); go_simp; refine hK _ ?_; clear hK K
        refine NB.t_r 13 [14, 20, 21] rfl (by kernel_rfl) (by kernel_rfl) (by go_simp) _ (fun w' hw' => NB.run_op_load rfl rfl Try.underlying22 rfl p1 hw') (fun K hK => ?_); go_simp; refine hK _ ?_; clear hK K
        refine NB.t_r 14 [20, 21] rfl (by kernel_rfl) (by kernel_rfl) (by go_simp) _ (fun w' hw' => NB.run_op_conv_str Try.underlying22 Try.underlying5 Try.underlying9 rfl rfl (Rd.below rx8 hw')) (fun K hK => ?_); go_simp; refine hK _ ?_; clear hK K
        refine NB.t_p 15 rfl (by kernel_rfl) (fun K hK => ?_); go_simp; refine hK _ ?_; clear hK K
        refine NB.t_p 16 rfl (by kernel_rfl) (fun K hK => ?_); go_simp; refine hK _ ?_; clear hK K
        refine NB.t_p 17 rfl (by kernel_rfl) (fun K hK => ?_); go_simp; refine hK _ ?_; clear hK K
        refine NB.t_r 18 [19, 20, 21] rfl (by kernel_rfl) (by kernel_rfl) (by go_simp) _ (fun w' hw' => NB.run_op_load rfl rfl Try.underlying22 rfl q1 hw') (fun K hK => ?_); go_simp; refine hK _ ?_; clear hK K
        refine NB.t_r 19 [20, 21] rfl (by kernel_rfl) (by kernel_rfl) (by go_simp) _ (fun w' hw' => NB.run_op_conv_str Try.underlying22 Try.underlying5 Try.underlying9 rfl rfl (Rd.below ry8 hw')) (fun K hK => ?_); go_simp; refine hK _ ?_; clear hK K
        refine NB.t_p 20 rfl (by kernel_rfl) (fun K hK => ?_); go_simp; refine hK _ ?_; clear hK K
        refine NB.t_p 21 rfl (by kernel_rfl) (fun K hK => ?_); go_simp; refine hK _ ?_; clear hK K
        refine NB.t_end (by kernel_rfl) ?_
        go_wp2_with fail
        go_roundw
        case rel => exact ⟨j + 1, by omega, by go_num, B9⟩
        case measure => simp [intOf]; omega
end Go.Proofs.Ytcipghogcehfnaa

