/- The walk for the statement ConfShort. -/
import Derived.Test.YtnkmlopgfgdajaaCga
import Derived.Test.YtnkmlopgfgdajaaOst
namespace Go.Proofs.Ytnkmlopgfgdajaa
open Go.RowKit
open Go.NB (Rd RdU Kp Stp Dis Rr Rw oneB dB encU)

theorem getM_more {c : Cm} (h : checkB c = true) (hw : WfC c) (t : List UInt8) : (getM (putL c ++ t)).2 = if t = [] then 0 else 12 := by
  rw [getM_put h hw t]
  split <;> rfl
theorem putL_len {op sh sg : Int} {cl sq ps : Nat} {L : List Iw} (hx : cl < 18446744073709551616 ∧ sq < 18446744073709551616 ∧ ps < 18446744073709551616) (hW : ∀ x ∈ L, ∀ y ∈ x.l, y < 18446744073709551616) (h : checkB (cmOf op cl sq sh sg ps L) = true) : (putL (cmOf op cl sq sh sg ps L)).length ≤ 1000 := by
  have hwf : WfC (cmOf op cl sq sh sg ps L) := ⟨hx.1, hx.2.1, hx.2.2, fun r hr => by
    obtain ⟨x, hx, rfl⟩ := List.mem_map.1 hr
    exact hW x hx⟩
  obtain ⟨hk, _, hok⟩ := okF_of h hwf
  obtain ⟨b0, b1, b2, b3, b4, _, hput⟩ := of_puts _ hk
  have hrg := check_rng h
  have hr : ((cmOf op cl sq sh sg ps L).rows.length : Int) ≤ 8 ∧ ∀ r ∈ (cmOf op cl sq sh sg ps L).rows, (0 ≤ r.s ∧ r.s < 8) ∧ r.l.length < 5 := by
    simp only [checkB, Bool.and_eq_true] at h
    have := rowsOk_all (-1) _ (by omega) (by omega) h.1
    exact ⟨by omega, this.2⟩
  have hnum : ∀ l : List Nat, (∀ y ∈ l, y < 18446744073709551616) → (l.flatMap encU).length ≤ 9 * l.length := by
    intro l
    induction l with
    | nil => intro _; simp
    | cons y l ih =>
      intro hy
      have h1 := ih (fun z hz => hy z (by simp [hz]))
      have h2 := NB.encU_len (hy y (by simp))
      rw [List.flatMap_cons, List.length_append, List.length_cons]; omega
  have hrow : ∀ r ∈ (cmOf op cl sq sh sg ps L).rows, (encR r).length ≤ 54 := by
    intro r hr'
    obtain ⟨⟨h1, h2⟩, h3⟩ := hr.2 r hr'
    have h4 := hnum r.l (fun y hy => hwf.rows r hr' y hy)
    have h5 := NB.encU_len (x := r.s.toNat) (by omega)
    have h6 := NB.encU_len (x := r.l.length) (by omega)
    simp only [encR, List.length_append]
    omega
  have hrows : ∀ l : List Rl, (∀ r ∈ l, (encR r).length ≤ 54) → (l.flatMap encR).length ≤ 54 * l.length := by
    intro l
    induction l with
    | nil => intro _; simp
    | cons y l ih =>
      intro hy
      have h1 := ih (fun z hz => hy z (by simp [hz]))
      have h2 := hy y (by simp)
      simp only [List.flatMap_cons, List.length_append, List.length_cons]; omega
  have h7 := hrows _ hrow
  obtain ⟨⟨h8, h9⟩, h10, h11⟩ := hrg
  obtain ⟨k, rfl⟩ := Int.eq_ofNat_of_zero_le h8
  obtain ⟨sh, rfl⟩ := Int.eq_ofNat_of_zero_le h10.1
  obtain ⟨sg, rfl⟩ := Int.eq_ofNat_of_zero_le h11.1
  have hk' : (cmOf (k : Int) cl sq sh sg ps L).op.toNat = k := by simp [cmOf]
  rw [hk'] at hok hput
  have e := hput cl sq sh sg ps L hok
  rw [← e]
  have e1 := NB.encU_len hx.1
  have e2 := NB.encU_len hx.2.1
  have e3 := NB.encU_len (x := sh) (by omega)
  have e4 := NB.encU_len (x := sg) (by omega)
  have e5 := NB.encU_len hx.2.2
  have hLl : L.length ≤ 8 := by
    have := hr.1
    simp [cmOf] at this
    omega
  have e6 := NB.encU_len (x := L.length) (by omega)
  have e7 : (L.flatMap fun x => encR (rlOf x)).length ≤ 54 * 8 := by
    have e8 : (cmOf (k : Int) cl sq sh sg ps L).rows.flatMap encR = L.flatMap fun x => encR (rlOf x) := by simp [cmOf, List.flatMap_map]
    rw [e8] at h7
    have e9 : (cmOf (k : Int) cl sq sh sg ps L).rows.length = L.length := by simp [cmOf]
    rw [e9] at h7
    omega
  rw [List.length_append]
  have f1 := putS_len b0 [UInt8.ofNat k] cl hx.1
  have f2 := putS_len b0 (putS b0 [UInt8.ofNat k] cl) sq hx.2.1
  have f3 := putS_len b1 (putS b0 (putS b0 [UInt8.ofNat k] cl) sq) sh (by omega)
  have f4 := putS_len b2 (putS b1 (putS b0 (putS b0 [UInt8.ofNat k] cl) sq) sh) sg (by omega)
  have f5 := putS_len b3 (putS b2 (putS b1 (putS b0 (putS b0 [UInt8.ofNat k] cl) sq) sh) sg) ps hx.2.2
  have f6 := putS_len b4 (putS b3 (putS b2 (putS b1 (putS b0 (putS b0 [UInt8.ofNat k] cl) sq) sh) sg) ps) L.length (by omega)
  simp only [List.length_singleton] at f1
  omega

set_option maxHeartbeats 4000000 in
theorem law_cshort (w : World) (op sh sg : Int) (cl sq ps : Nat) (a : Option Addr) (n c : Nat) (L : List Iw) (a' : Option Addr) (n' c' : Nat) (t : List UInt8) (y : Int)
    (hx : cl < 18446744073709551616 ∧ sq < 18446744073709551616 ∧ ps < 18446744073709551616) (h : RdW w a n c L) (h' : NB.RdB w a' n' c' t) (hy : (Lit.int .u8 y).wf = true) :
    Calls Try.prog 9 #[.agg #[.int .i64 op, .int .u64 (cl : Int), .int .u64 (sq : Int), .int .i64 sh, .int .i64 sg, .int .u64 (ps : Int), .slice a n c], .slice a' n' c', .int .u8 y] w fun e w' => e = .returned (.bool true) ∧ Below w.heap.size w w' := by
  obtain ⟨y, rfl⟩ : ∃ K : UInt8, y = (K.toNat : Int) := ⟨UInt8.ofNat y.toNat, (NB.u8_of_wf hy).symm⟩
  clear hy
  have hsz := NB.RdB.size h'
  have hbd := Rd.bound h.rd
  have hbd' := Rd.bound h'
  obtain ⟨h1, h2, h3⟩ := hx
  have ob := oneB w (.cells #[.int .i64 op, .int .u64 (cl : Int), .int .u64 (sq : Int), .int .i64 sh, .int .i64 sg, .int .u64 (ps : Int), .slice a n c] 27)
  have r0 := NB.rw_new w [.int .i64 op, .int .u64 (cl : Int), .int .u64 (sq : Int), .int .i64 sh, .int .i64 sg, .int .u64 (ps : Int), .slice a n c] 27 rfl
  simp only [List.toArray] at r0
  have cs := fun w hh => short_any w op sh sg cl sq ps n c a L hh
  generalize shortB L = V at *
  have cp := fun w hh => cput_any w op sh sg cl sq ps n c a L hh h1 h2 h3
  have hwf : WfC (cmOf op cl sq sh sg ps L) := ⟨h1, h2, h3, fun r hr => by
    obtain ⟨x, hx, rfl⟩ := List.mem_map.1 hr
    exact (h.it x hx).2⟩
  have hlen := fun hh => putL_len (op := op) (sh := sh) (sg := sg) (L := L) ⟨h1, h2, h3⟩ (fun x hx => (h.it x hx).2) hh
  have CS := Go.Lib.hid cs; have CP := Go.Lib.hid cp; have HWF := Go.Lib.hid hwf; have HSZ := Go.Lib.hid hsz; have HLEN := Go.Lib.hid hlen
  clear cs cp hwf hsz hlen
  cases V with
  | false =>
    go_enter Try.func9, Try.ntmps9
    go_wp2_with fail
    refine (cawake_any _).mono ?_
    rintro e w1 ⟨rfl, hb1⟩
    have r1 := r0.below hb1
    have B1 := NB.bel ob hb1 ob.size
    obtain ⟨c0, c1, c2, c3, c4, c5, c6, _⟩ := NB.rw7 r1
    go_wp2_with (go_at_call 15; refine (CS.out _ (h.below B1)).mono ?_; rintro e w2 ⟨rfl, hb2⟩)
    go_ret
    exact ⟨rfl, NB.bel B1 hb2 B1.size⟩
  | true =>
    by_cases hn : n' ≤ 20
    case neg =>
      have hnz : ¬ (n' : Int) ≤ 20 := by omega
      go_enter Try.func9, Try.ntmps9
      go_wp2_with fail
      refine (cawake_any _).mono ?_
      rintro e w1 ⟨rfl, hb1⟩
      have r1 := r0.below hb1
      have B1 := NB.bel ob hb1 ob.size
      obtain ⟨c0, c1, c2, c3, c4, c5, c6, _⟩ := NB.rw7 r1
      go_wp2_with (go_at_call 15; refine (CS.out _ (h.below B1)).mono ?_; rintro e w2 ⟨rfl, hb2⟩)
      go_ret
      exact ⟨rfl, NB.bel B1 hb2 B1.size⟩
    have hnz : (n' : Int) ≤ 20 := by omega
    go_enter Try.func9, Try.ntmps9
    go_wp2_with fail
    refine (cawake_any _).mono ?_
    rintro e w1 ⟨rfl, hb1⟩
    have r1 := r0.below hb1
    have B1 := NB.bel ob hb1 ob.size
    obtain ⟨c0, c1, c2, c3, c4, c5, c6, _⟩ := NB.rw7 r1
    go_wp2_with fail
    refine (CS.out _ (h.below B1)).mono ?_
    rintro e w2 ⟨rfl, hb2⟩
    have r2 := r1.below hb2
    have B2 := NB.bel B1 hb2 B1.size
    clear c0 c1 c2 c3 c4 c5 c6 r1 r0 hb1 hb2 B1 ob
    obtain ⟨c0, c1, c2, c3, c4, c5, c6, _⟩ := NB.rw7 r2
    go_wp2_with fail
    refine (CP.out _ (h.below B2)).mono ?_
    unfold putM
    rintro e w3 ⟨a3, c3', rfl, ho3, hb3⟩
    have B3 := NB.bel B2 hb3 B2.size
    clear c0 c1 c2 c3 c4 c5 c6 r2 hb3 CS CP
    cases hk : checkB (cmOf op cl sq sh sg ps L) with
    | false =>
      rw [hk] at ho3
      simp only [Bool.false_eq_true, if_false]
      clear ho3 B2 hk
      go_wp2_with fail
      go_ret
      exact ⟨rfl, B3⟩
    | true =>
      rw [hk] at ho3
      simp only [if_true] at ho3 ⊢
      have hgm := fun t => getM_more hk HWF.out t
      have hZl := HLEN.out hk
      have hZ0 : ∃ z0 Z1, putL (cmOf op cl sq sh sg ps L) = z0 :: Z1 := ⟨_, _, rfl⟩
      unfold NB.OwnB at ho3
      obtain ⟨a3', c3'', e3, R3, _, _⟩ := NB.rd_of_own ho3
      cases e3
      have HG := Go.Lib.hid hgm
      clear hgm hk HWF HLEN ho3 B2
      generalize putL (cmOf op cl sq sh sg ps L) = Z at *
      have R3 : NB.RdB w3 a3 Z.length c3' Z := R3
      have hZp : 0 < Z.length := by obtain ⟨z0, Z1, e⟩ := hZ0; rw [e]; simp
      have hZi : (0 : Int) < (Z.length : Int) := by omega
      have hZn : ((Z.length : Int) == 0) = false := beq_eq_false_iff_ne.2 (by omega)
      have HZ0 := Go.Lib.hid hZ0
      clear hZ0
      have own0 : w3.ownsRow w.heap.size 5 1 (.slice none 0 0) 0 [] := ⟨by simp, .inl ⟨rfl, rfl⟩⟩
      go_wp2_with (first
        | (at_builtin; refine NB.wpList_append_rd rfl (.tmp 42) (.tmp 43) 22 rfl w.heap.size slTB _ 0 [] rfl own0 a3 Z.length c3' (Z.map NB.u8v) rfl R3 (NB.u8v_one Z) (by omega) (by unfold maxLen; omega) B3.size ?_; intro v4 w4 ho4 hg4; have hb4 : Below w3.heap.size w3 w4 := (Below.refl _ w3).grown hg4 (Nat.le_refl _) (by rintro k hk; cases hk); have B4 := NB.bel B3 hb4 B3.size; have r4 := h'.below B4; simp only [Nat.zero_add, List.nil_append] at ho4; clear hg4 own0 R3 B3 hb4)
        | (at_builtin; refine NB.wpList_append_rd rfl (.tmp 45) (.tmp 46) 22 rfl w.heap.size slTB v4 Z.length (Z.map NB.u8v) rfl ho4 a' n' c' (t.map NB.u8v) rfl r4 (NB.u8v_one t) (by omega) (by unfold maxLen; omega) B4.size ?_; intro v5 w5 ho5 hg5))
      have B5 : Below w.heap.size w w5 := B4.grown hg5 B4.size (fun k e => (ho4.lt k e).1)
      rw [← List.map_append] at ho5
      obtain ⟨a5, c5, e5, hr5, hlo5, _⟩ := NB.rd_of_own ho5
      subst e5
      have R5 : NB.RdB w5 a5 (Z.length + n') c5 (Z ++ t) := hr5
      have hle5 := hr5.le
      have hmx5 := Rd.bound hr5
      clear hr5 hlo5 ho4 hg5 r4 B4
      go_wp2_with fail
      refine (cget_any _ _ (Z.length + n') c5 (Z ++ t) R5 (by omega)).mono ?_
      have hge := HG.out t
      obtain ⟨X, hX⟩ : ∃ X, X = getM (Z ++ t) := ⟨_, rfl⟩
      rw [← hX] at hge ⊢
      clear hX
      obtain ⟨X1, X2⟩ := X
      simp only at hge
      rintro e w7 ⟨a7, c7, L7, rfl, _, _, hb7⟩
      simp only
      have ob7 := oneB w7 (.cells #[.int .i64 X1.op, .int .u64 (X1.client : Int), .int .u64 (X1.seq : Int), .int .i64 X1.shard, .int .i64 X1.segs, .int .u64 (X1.pos : Int), .slice a7 L7.length c7] 27)
      have B8 := NB.bel (NB.bel B5 hb7 B5.size) ob7 (Nat.le_trans B5.size hb7.size)
      have ho8 := NB.own_keep (NB.own_keep ho5 hb7) ob7
      obtain ⟨g, cc, e8, hbg, hlg, hci, hfi, hcc, hcm, ho9⟩ := NB.own_setB ho8 0 (show 0 < Z.length + n' by omega) (.int .u8 (y.toNat : Int))
      cases e8
      have hc0 : ∃ v, (w7.alloc (.cells #[.int .i64 X1.op, .int .u64 (X1.client : Int), .int .u64 (X1.seq : Int), .int .i64 X1.shard, .int .i64 X1.segs, .int .u64 (X1.pos : Int), .slice a7 L7.length c7] 27)).cell? ⟨g, 0, none⟩ = some v := by
        rw [hci, List.getElem?_map, List.getElem?_eq_getElem (by rw [List.length_append]; omega)]
        exact ⟨_, rfl⟩
      obtain ⟨v0, hv0⟩ := hc0
      have B9 : Below w.heap.size w _ := B8.setCell (p := ⟨g, 0, none⟩) hbg (.int .u8 (y.toNat : Int))
      have R9 : ∃ rest, NB.RdB ((w7.alloc (.cells #[.int .i64 X1.op, .int .u64 (X1.client : Int), .int .u64 (X1.seq : Int), .int .i64 X1.shard, .int .i64 X1.segs, .int .u64 (X1.pos : Int), .slice a7 L7.length c7] 27)).setCell ⟨g, 0, none⟩ (.int .u8 (y.toNat : Int))) (some ⟨g, 0, none⟩) (Z.length + n') c5 (y :: rest) := by
        obtain ⟨a9, c9, e9, hr9, _⟩ := NB.rd_of_own ho9
        cases e9
        obtain ⟨z0, Z1, e⟩ := HZ0.out
        refine ⟨Z1 ++ t, ?_⟩
        have e2 : ((Z ++ t).map NB.u8v).set 0 (.int .u8 (y.toNat : Int)) = (y :: (Z1 ++ t)).map NB.u8v := by rw [e]; rfl
        rw [e2] at hr9
        exact hr9
      obtain ⟨rest, R9⟩ := R9
      have HR9 := Go.Lib.hid R9; have HB9 := Go.Lib.hid B9
      clear hci ho8 ho9 R9 B9 B8 hb7 ob7 R5 B5 ho5 HZ0 HG
      have hgo : ∀ (w0 : World), True := fun _ => trivial
      have hnn : (0 : Int) < (Z.length : Int) + (n' : Int) := by omega
      have h63 : (Z.length : Int) + (n' : Int) ≤ 9223372036854775807 := by omega
      clear hgo
      have fin : ∀ R : Cm × Int, (4 < y.toNat → R.2 = 11) → True := fun _ _ => trivial
      clear fin
      have hg4 : 4 < y.toNat → getM (y :: rest) = (cm0, 11) := getM_op y rest
      obtain ⟨X, hX⟩ : ∃ X, X = getM (y :: rest) := ⟨_, rfl⟩
      have cg := fun w hh => cget_any w (some ⟨g, 0, none⟩) (Z.length + n') c5 (y :: rest) hh (by omega)
      rw [← hX] at hg4 cg
      obtain ⟨Y1, Y2⟩ := X
      have HG4 := Go.Lib.hid hg4; have HCG := Go.Lib.hid cg
      clear hg4 cg hX
      by_cases ht : t = []
      · have hn0 : n' = 0 := by rw [← HSZ.out, ht]; rfl
        rw [if_pos ht] at hge
        subst hn0; subst hge
        clear ht
        by_cases hy4 : y.toNat ≤ 4
        · have hyi : (y.toNat : Int) ≤ 4 := by omega
          go_wp2_with fail
          refine (HCG.out _ HR9.out).mono ?_
          rintro e w9 ⟨a9, c9, L9, rfl, _, _, hb9⟩
          simp only
          have B10 := NB.bel HB9.out hb9 HB9.out.size
          clear hb9
          go_wp2_with fail
          go_ret
          exact ⟨by simp, B10.alloc B10.size _⟩
        · have hyi : ¬ (y.toNat : Int) ≤ 4 := by omega
          have hY := HG4.out (by omega)
          have hY2 : Y2 = 11 := congrArg Prod.snd hY
          subst hY2
          clear hY
          go_wp2_with fail
          refine (HCG.out _ HR9.out).mono ?_
          rintro e w9 ⟨a9, c9, L9, rfl, _, _, hb9⟩
          simp only
          have B10 := NB.bel HB9.out hb9 HB9.out.size
          clear hb9
          go_wp2_with fail
          go_ret
          exact ⟨by simp, B10.alloc B10.size _⟩
      · have hn0 : 0 < n' := by
          rw [← HSZ.out]
          cases t with
          | nil => exact absurd rfl ht
          | cons _ _ => simp
        rw [if_neg ht] at hge
        subst hge
        have hn1 : ((n' : Int) == 0) = false := beq_eq_false_iff_ne.2 (by omega)
        have hn2 : (0 : Int) < (n' : Int) := by omega
        clear ht hn0
        by_cases hy4 : y.toNat ≤ 4
        · have hyi : (y.toNat : Int) ≤ 4 := by omega
          go_wp2_with fail
          refine (HCG.out _ HR9.out).mono ?_
          rintro e w9 ⟨a9, c9, L9, rfl, _, _, hb9⟩
          simp only
          have B10 := NB.bel HB9.out hb9 HB9.out.size
          clear hb9
          go_wp2_with fail
          go_ret
          exact ⟨by simp, B10.alloc B10.size _⟩
        · have hyi : ¬ (y.toNat : Int) ≤ 4 := by omega
          have hY := HG4.out (by omega)
          have hY2 : Y2 = 11 := congrArg Prod.snd hY
          subst hY2
          clear hY
          go_wp2_with fail
          refine (HCG.out _ HR9.out).mono ?_
          rintro e w9 ⟨a9, c9, L9, rfl, _, _, hb9⟩
          simp only
          have B10 := NB.bel HB9.out hb9 HB9.out.size
          clear hb9
          go_wp2_with fail
          go_ret
          exact ⟨by simp, B10.alloc B10.size _⟩
end Go.Proofs.Ytnkmlopgfgdajaa
