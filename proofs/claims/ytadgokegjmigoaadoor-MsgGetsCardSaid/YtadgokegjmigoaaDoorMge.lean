/- A message is put: walked. -/
import Derived.Test.YtadgokegjmigoaaDoorMgd
namespace Go.Proofs.YtadgokegjmigoaaDoor
open Go.RowKit Go.Shelf
open Go.NB (Rd Kp Stp Off Dis oneB dB Rw RdU Lp encU encB)
attribute [local go_sem] Oper.semAt_some

set_option maxRecDepth 100000 in
set_option maxHeartbeats 4000000 in
theorem mput_ok_any (w : World) (hT : Tb w) (m : Mm) (av : Option Addr) (cv : Nat) (ab : Option Addr) (cb : Nat) (hR : MsgR w m av cv ab cb) (hW : WfM m) (hc : mcheckB m = true) :
    Calls Tryd.prog 15 #[.agg (msgV m av cv ab cb).toArray] w (BytE w (fbL (frOfM m), 0)) := by
  obtain ⟨⟨hk1, hk2⟩, _, hok⟩ := mcheck_parts hc hW
  obtain ⟨kk, hkk⟩ := Int.eq_ofNat_of_zero_le (show 0 ≤ m.kind by omega)
  have hk19 : kk < 19 := by omega
  have hkt : m.kind.toNat = kk := by omega
  have hcm : mcheckM m = 0 := by unfold mcheckM; rw [if_pos hc]
  have RB : Rw (w.alloc (.cells (msgV m av cv ab cb).toArray 32)) w.heap.size (msgV m av cv ab cb) 32 := NB.rw_new w _ _ rfl
  have hT1 := hT.grow (oneB w (.cells (msgV m av cv ab cb).toArray 32))
  have B1 := oneB w (.cells (msgV m av cv ab cb).toArray 32)
  have hs1 : (w.alloc (.cells (msgV m av cv ab cb).toArray 32)).heap.size = w.heap.size + 1 := by simp
  have hck := mcheck_any (w.alloc (.cells (msgV m av cv ab cb).toArray 32)) hT1 m av cv ab cb
  rw [hcm] at hck
  have HCK := Go.Lib.hid hck
  clear hck hcm
  refine (callsIn_wide (n := 6)).1 ?_
  refine callsIn_of_wp_marks Tryd.func15 rfl trivial ?_ rfl
  simp only [Tryd.ntmps15, List.size_toArray, List.length_cons, List.length_nil, Nat.reduceAdd, Nat.reduceSub, Array.replicate_succ, Array.replicate_zero, List.push_toArray, List.append_toArray, List.nil_append, List.cons_append]
  unfold msgV at RB HCK B1 hs1 ⊢
  simp only [List.toArray] at RB HCK B1 hs1 ⊢
  have HKK := Go.Lib.hid hkk
  clear hkk
  gi_wp2_with fail
  refine ⟨trivial, (callsIn_wide.2 HCK.out).mono ?_⟩
  rintro e w3 ⟨rfl, hb3⟩
  have RB3 := RB.below hb3
  have B3 := NB.bel B1 hb3 B1.size
  have hs3 := hb3.size
  rw [hs1] at hs3
  clear RB B1 hb3 HCK hT1 hs1
  gi_wp2_with fail
  refine ⟨trivial, (callsIn_wide.2 (wnew_any w3)).mono ?_⟩
  rintro e w4 ⟨pw, F, rfl, hw4, hb4⟩
  have RB4 := RB3.below hb4
  have B4 := NB.bel B3 hb4 B3.size
  have hs4 := hb4.size
  have hF4 : ∀ j, F j → w3.heap.size ≤ j ∧ j < w4.heap.size := fun j hj => hw4.foot j hj
  have RP5 : Rw (w4.alloc (.cells #[.pointer (some ⟨pw, 0, none⟩)] 78)) w4.heap.size [.pointer (some ⟨pw, 0, none⟩)] 78 := NB.rw_new w4 [.pointer (some ⟨pw, 0, none⟩)] _ rfl
  have hb5 := oneB w4 (.cells #[.pointer (some ⟨pw, 0, none⟩)] 78)
  have RB5 := RB4.below hb5
  have B5 := NB.bel B4 hb5 B4.size
  have hw5 := hw4.below hb5
  have hs5 : (w4.alloc (.cells #[.pointer (some ⟨pw, 0, none⟩)] 78)).heap.size = w4.heap.size + 1 := by simp
  clear RB3 B3 hb4 RB4 B4 hb5 hw4
  have c0 := RB5.cell 0 _ rfl
  gi_wp2_with fail
  refine ⟨trivial, (callsIn_wide.2 (each_any _ _)).mono ?_⟩
  rintro e w' ⟨rfl, e2⟩
  subst w'
  generalize w4.alloc (.cells #[.pointer (some ⟨pw, 0, none⟩)] 78) = w5 at *
  have RK6 : Rw (w5.alloc (.cells #[.int .i64 m.kind] 3)) w5.heap.size [.int .i64 m.kind] 3 := NB.rw_new w5 [.int .i64 m.kind] _ rfl
  have hb6 := oneB w5 (.cells #[.int .i64 m.kind] 3)
  have RB6 := RB5.below hb6
  have RP6 := RP5.below hb6
  have B6 := NB.bel B5 hb6 B5.size
  have hw6 := hw5.below hb6
  have hs6 : (w5.alloc (.cells #[.int .i64 m.kind] 3)).heap.size = w4.heap.size + 2 := by simp [hs5]
  rw [hs5] at RK6
  simp only [hs5]
  clear RB5 RP5 B5 hw5 hb6 c0
  generalize w5.alloc (.cells #[.int .i64 m.kind] 3) = w6 at *
  gi_wp2_with fail
  have hent := enters_of Tryd.func50 (by kernel_rfl) rfl
  refine NB.range_told rfl (by omega) (gf := 50) (lb := #[.pointer (some ⟨w4.heap.size + 1, 0, none⟩)]) rfl trivial hent
    (fun W' => PS w m av cv ab cb pw w3.heap.size w.heap.size w4.heap.size (w4.heap.size + 1) w6.heap.size m.kind (preL m 10) W') ?hit ?hdone
  case hit =>
    intro fn hfn L W1 hB1 hb1 hsz1
    have P1 : PS w m av cv ab cb pw w3.heap.size w.heap.size w4.heap.size (w4.heap.size + 1) w6.heap.size m.kind (preL m 0) W1 :=
      ⟨⟨F, hw6.below hb1, fun j hj => by have := hF4 j hj; omega⟩, RB6.below hb1, RP6.below hb1, RK6.below hb1, NB.bel B6 hb1 B6.size, by omega, by omega⟩
    refine (each1_in _ (by omega) (w6.heap.size + 1) (w4.heap.size + 1) kk hk19 (fun i W => NB.Bk L .ready W ∧ PS w m av cv ab cb pw w3.heap.size w.heap.size w4.heap.size (w4.heap.size + 1) w6.heap.size m.kind (preL m i) W) (fun _ => False) ?_ ?_ ?_ W1 ⟨hB1, P1⟩).mono ?_
    · intro i W h
      have hk := h.2.kb.cell 0 _ rfl
      rw [HKK.out] at hk
      exact ⟨hk, hT.grow h.2.bel⟩
    · intro i W h hcn
      exact ⟨h.1, by rw [preL_no m i (by rw [hkt]; exact hcn)]; exact h.2⟩
    · intro i W hi h hcn
      obtain ⟨hBk, hPS⟩ := h
      refine (NB.yield_told L hfn rfl hBk (R := fun W' => PS w m av cv ab cb pw w3.heap.size w.heap.size w4.heap.size (w4.heap.size + 1) w6.heap.size m.kind (preL m (i + 1)) W') ?_).mono (fun e W' h => .inl ⟨h.1, h.2.1, h.2.2⟩)
      have hB2 := hBk.turn .busy
      have hP2 := hPS.loop (.loop (L.at_ .busy none))
      rw [preL_yes m i (by rw [hkt]; exact hcn)]
      have HBK := Go.Lib.hid hBk
      have hlen := preL_len m hok i (by omega)
      have hoki := hok i hi
      obtain ⟨bs, hbs⟩ : ∃ bs, preL m i = bs := ⟨_, rfl⟩
      rw [hbs] at hP2 hlen ⊢
      clear hbs hBk hPS hcn RB6 RP6 RK6 B6 hw6 hb1 P1 hB1
      have HS6 := Go.Lib.hid hs6
      clear hs6 hs5
      have hcs : i = 0 ∨ i = 1 ∨ i = 2 ∨ i = 3 ∨ i = 4 ∨ i = 5 ∨ i = 6 ∨ i = 7 ∨ i = 8 ∨ i = 9 := by omega
      rcases hcs with rfl | rfl | rfl | rfl | rfl | rfl | rfl | rfl | rfl | rfl
      · have hp : ((2 ^ 0 : Nat) : Int) = 1 := rfl
        rw [hp]
        gi_wp2_with fail
        refine ⟨HBK.out, ?_⟩
        clear HBK
        obtain ⟨W2, hW2⟩ : ∃ W2, W.putObj (w6.heap.size + 1) (.loop (L.at_ .busy none)) = W2 := ⟨_, rfl⟩
        rw [hW2] at hB2 hP2 ⊢
        clear hW2
        have cp := hP2.ptr.cell 0 _ rfl

        have hmo : Tryd.prog.follows .mixedOrders = true := by kernel_rfl
        have hP3 := hP2.below (dB W2)
        have hB3 := hB2.below (dB W2)
        have hnl := natF_lt m 0 (by omega) hoki
        have henc := encFl_nat m 0 (by omega)
        rw [henc]
        clear henc
        gi_wp2_with fail
        gi_region_with_o (first
          | (refine ⟨trivial, (CallsIn.inRound _ (callsIn_wide.2 (mnum_any W2.drew w.heap.size m av cv ab cb hP3.box 0 (by omega) hoki _ rfl))).mono ?_⟩; rintro e w' ⟨rfl, e2⟩; subst w')
          | (refine ⟨trivial, (CallsIn.inRound _ (callsIn_wide.2 (ps_uint hP3 (natF m 0) hnl (by omega)))).mono ?_⟩; rintro e W3 ⟨rfl, hP4, hk4⟩))
        all_goals
          have hB4 := hB3.kp hk4 (fun h => h.1 rfl) (fun h => h.2 rfl)
          gi_wp2_with fail
          first | exact hP4.loop _ | exact ⟨hB4, hP4.loop _⟩
      · have hp : ((2 ^ 1 : Nat) : Int) = 2 := rfl
        rw [hp]
        gi_wp2_with fail
        refine ⟨HBK.out, ?_⟩
        clear HBK
        obtain ⟨W2, hW2⟩ : ∃ W2, W.putObj (w6.heap.size + 1) (.loop (L.at_ .busy none)) = W2 := ⟨_, rfl⟩
        rw [hW2] at hB2 hP2 ⊢
        clear hW2
        have cp := hP2.ptr.cell 0 _ rfl

        have hmo : Tryd.prog.follows .mixedOrders = true := by kernel_rfl
        have hP3 := hP2.below (dB W2)
        have hB3 := hB2.below (dB W2)
        have hnl := natF_lt m 1 (by omega) hoki
        have henc := encFl_nat m 1 (by omega)
        rw [henc]
        clear henc
        gi_wp2_with fail
        gi_region_with_o (first
          | (refine ⟨trivial, (CallsIn.inRound _ (callsIn_wide.2 (mnum_any W2.drew w.heap.size m av cv ab cb hP3.box 1 (by omega) hoki _ rfl))).mono ?_⟩; rintro e w' ⟨rfl, e2⟩; subst w')
          | (refine ⟨trivial, (CallsIn.inRound _ (callsIn_wide.2 (ps_uint hP3 (natF m 1) hnl (by omega)))).mono ?_⟩; rintro e W3 ⟨rfl, hP4, hk4⟩))
        all_goals
          have hB4 := hB3.kp hk4 (fun h => h.1 rfl) (fun h => h.2 rfl)
          gi_wp2_with fail
          first | exact hP4.loop _ | exact ⟨hB4, hP4.loop _⟩
      · have hp : ((2 ^ 2 : Nat) : Int) = 4 := rfl
        rw [hp]
        gi_wp2_with fail
        refine ⟨HBK.out, ?_⟩
        clear HBK
        obtain ⟨W2, hW2⟩ : ∃ W2, W.putObj (w6.heap.size + 1) (.loop (L.at_ .busy none)) = W2 := ⟨_, rfl⟩
        rw [hW2] at hB2 hP2 ⊢
        clear hW2
        have cp := hP2.ptr.cell 0 _ rfl

        have hmo : Tryd.prog.follows .mixedOrders = true := by kernel_rfl
        have hP3 := hP2.below (dB W2)
        have hB3 := hB2.below (dB W2)
        have hnl := natF_lt m 2 (by omega) hoki
        have henc := encFl_nat m 2 (by omega)
        rw [henc]
        clear henc
        gi_wp2_with fail
        gi_region_with_o (first
          | (refine ⟨trivial, (CallsIn.inRound _ (callsIn_wide.2 (mnum_any W2.drew w.heap.size m av cv ab cb hP3.box 2 (by omega) hoki _ rfl))).mono ?_⟩; rintro e w' ⟨rfl, e2⟩; subst w')
          | (refine ⟨trivial, (CallsIn.inRound _ (callsIn_wide.2 (ps_uint hP3 (natF m 2) hnl (by omega)))).mono ?_⟩; rintro e W3 ⟨rfl, hP4, hk4⟩))
        all_goals
          have hB4 := hB3.kp hk4 (fun h => h.1 rfl) (fun h => h.2 rfl)
          gi_wp2_with fail
          first | exact hP4.loop _ | exact ⟨hB4, hP4.loop _⟩
      · have hp : ((2 ^ 3 : Nat) : Int) = 8 := rfl
        rw [hp]
        gi_wp2_with fail
        refine ⟨HBK.out, ?_⟩
        clear HBK
        obtain ⟨W2, hW2⟩ : ∃ W2, W.putObj (w6.heap.size + 1) (.loop (L.at_ .busy none)) = W2 := ⟨_, rfl⟩
        rw [hW2] at hB2 hP2 ⊢
        clear hW2
        have cp := hP2.ptr.cell 0 _ rfl

        have hmo : Tryd.prog.follows .mixedOrders = true := by kernel_rfl
        have hP3 := hP2.below (dB W2)
        have hB3 := hB2.below (dB W2)
        have hnl := natF_lt m 3 (by omega) hoki
        have henc := encFl_nat m 3 (by omega)
        rw [henc]
        clear henc
        gi_wp2_with fail
        gi_region_with_o (first
          | (refine ⟨trivial, (CallsIn.inRound _ (callsIn_wide.2 (mnum_any W2.drew w.heap.size m av cv ab cb hP3.box 3 (by omega) hoki _ rfl))).mono ?_⟩; rintro e w' ⟨rfl, e2⟩; subst w')
          | (refine ⟨trivial, (CallsIn.inRound _ (callsIn_wide.2 (ps_uint hP3 (natF m 3) hnl (by omega)))).mono ?_⟩; rintro e W3 ⟨rfl, hP4, hk4⟩))
        all_goals
          have hB4 := hB3.kp hk4 (fun h => h.1 rfl) (fun h => h.2 rfl)
          gi_wp2_with fail
          first | exact hP4.loop _ | exact ⟨hB4, hP4.loop _⟩
      · have hp : ((2 ^ 4 : Nat) : Int) = 16 := rfl
        rw [hp]
        gi_wp2_with fail
        refine ⟨HBK.out, ?_⟩
        clear HBK
        obtain ⟨W2, hW2⟩ : ∃ W2, W.putObj (w6.heap.size + 1) (.loop (L.at_ .busy none)) = W2 := ⟨_, rfl⟩
        rw [hW2] at hB2 hP2 ⊢
        clear hW2
        have cp := hP2.ptr.cell 0 _ rfl

        have hmo : Tryd.prog.follows .mixedOrders = true := by kernel_rfl
        have hP3 := hP2.below (dB W2)
        have hB3 := hB2.below (dB W2)
        have hnl := natF_lt m 4 (by omega) hoki
        have henc := encFl_nat m 4 (by omega)
        rw [henc]
        clear henc
        gi_wp2_with fail
        gi_region_with_o (first
          | (refine ⟨trivial, (CallsIn.inRound _ (callsIn_wide.2 (mnum_any W2.drew w.heap.size m av cv ab cb hP3.box 4 (by omega) hoki _ rfl))).mono ?_⟩; rintro e w' ⟨rfl, e2⟩; subst w')
          | (refine ⟨trivial, (CallsIn.inRound _ (callsIn_wide.2 (ps_uint hP3 (natF m 4) hnl (by omega)))).mono ?_⟩; rintro e W3 ⟨rfl, hP4, hk4⟩))
        all_goals
          have hB4 := hB3.kp hk4 (fun h => h.1 rfl) (fun h => h.2 rfl)
          gi_wp2_with fail
          first | exact hP4.loop _ | exact ⟨hB4, hP4.loop _⟩
      · have hp : ((2 ^ 5 : Nat) : Int) = 32 := rfl
        rw [hp]
        gi_wp2_with fail
        refine ⟨HBK.out, ?_⟩
        clear HBK
        obtain ⟨W2, hW2⟩ : ∃ W2, W.putObj (w6.heap.size + 1) (.loop (L.at_ .busy none)) = W2 := ⟨_, rfl⟩
        rw [hW2] at hB2 hP2 ⊢
        clear hW2
        have cp := hP2.ptr.cell 0 _ rfl

        have hmo : Tryd.prog.follows .mixedOrders = true := by kernel_rfl
        have hP3 := hP2.below (dB W2)
        have hB3 := hB2.below (dB W2)
        have hnl := natF_lt m 5 (by omega) hoki
        have henc := encFl_nat m 5 (by omega)
        rw [henc]
        clear henc
        gi_wp2_with fail
        gi_region_with_o (first
          | (refine ⟨trivial, (CallsIn.inRound _ (callsIn_wide.2 (mnum_any W2.drew w.heap.size m av cv ab cb hP3.box 5 (by omega) hoki _ rfl))).mono ?_⟩; rintro e w' ⟨rfl, e2⟩; subst w')
          | (refine ⟨trivial, (CallsIn.inRound _ (callsIn_wide.2 (ps_uint hP3 (natF m 5) hnl (by omega)))).mono ?_⟩; rintro e W3 ⟨rfl, hP4, hk4⟩))
        all_goals
          have hB4 := hB3.kp hk4 (fun h => h.1 rfl) (fun h => h.2 rfl)
          gi_wp2_with fail
          first | exact hP4.loop _ | exact ⟨hB4, hP4.loop _⟩
      · have hp : ((2 ^ 6 : Nat) : Int) = 64 := rfl
        rw [hp]
        gi_wp2_with fail
        refine ⟨HBK.out, ?_⟩
        clear HBK
        obtain ⟨W2, hW2⟩ : ∃ W2, W.putObj (w6.heap.size + 1) (.loop (L.at_ .busy none)) = W2 := ⟨_, rfl⟩
        rw [hW2] at hB2 hP2 ⊢
        clear hW2
        have cp := hP2.ptr.cell 0 _ rfl

        have hmo : Tryd.prog.follows .mixedOrders = true := by kernel_rfl
        have hP3 := hP2.below (dB W2)
        have hB3 := hB2.below (dB W2)
        have hnl := natF_lt m 6 (by omega) hoki
        have henc := encFl_nat m 6 (by omega)
        rw [henc]
        clear henc
        gi_wp2_with fail
        gi_region_with_o (first
          | (refine ⟨trivial, (CallsIn.inRound _ (callsIn_wide.2 (mnum_any W2.drew w.heap.size m av cv ab cb hP3.box 6 (by omega) hoki _ rfl))).mono ?_⟩; rintro e w' ⟨rfl, e2⟩; subst w')
          | (refine ⟨trivial, (CallsIn.inRound _ (callsIn_wide.2 (ps_uint hP3 (natF m 6) hnl (by omega)))).mono ?_⟩; rintro e W3 ⟨rfl, hP4, hk4⟩))
        all_goals
          have hB4 := hB3.kp hk4 (fun h => h.1 rfl) (fun h => h.2 rfl)
          gi_wp2_with fail
          first | exact hP4.loop _ | exact ⟨hB4, hP4.loop _⟩
      · have hp : ((2 ^ 7 : Nat) : Int) = 128 := rfl
        rw [hp]
        gi_wp2_with fail
        refine ⟨HBK.out, ?_⟩
        clear HBK
        obtain ⟨W2, hW2⟩ : ∃ W2, W.putObj (w6.heap.size + 1) (.loop (L.at_ .busy none)) = W2 := ⟨_, rfl⟩
        rw [hW2] at hB2 hP2 ⊢
        clear hW2
        have cp := hP2.ptr.cell 0 _ rfl

        have hmo : Tryd.prog.follows .mixedOrders = true := by kernel_rfl
        have hP3 := hP2.below (dB W2)
        have hB3 := hB2.below (dB W2)
        have hnl := natF_lt m 7 (by omega) hoki
        have henc := encFl_nat m 7 (by omega)
        rw [henc]
        clear henc
        gi_wp2_with fail
        gi_region_with_o (first
          | (refine ⟨trivial, (CallsIn.inRound _ (callsIn_wide.2 (mnum_any W2.drew w.heap.size m av cv ab cb hP3.box 7 (by omega) hoki _ rfl))).mono ?_⟩; rintro e w' ⟨rfl, e2⟩; subst w')
          | (refine ⟨trivial, (CallsIn.inRound _ (callsIn_wide.2 (ps_uint hP3 (natF m 7) hnl (by omega)))).mono ?_⟩; rintro e W3 ⟨rfl, hP4, hk4⟩))
        all_goals
          have hB4 := hB3.kp hk4 (fun h => h.1 rfl) (fun h => h.2 rfl)
          gi_wp2_with fail
          first | exact hP4.loop _ | exact ⟨hB4, hP4.loop _⟩
      · have hp : ((2 ^ 8 : Nat) : Int) = 256 := rfl
        rw [hp]
        gi_wp2_with fail
        refine ⟨HBK.out, ?_⟩
        clear HBK
        obtain ⟨W2, hW2⟩ : ∃ W2, W.putObj (w6.heap.size + 1) (.loop (L.at_ .busy none)) = W2 := ⟨_, rfl⟩
        rw [hW2] at hB2 hP2 ⊢
        clear hW2
        have cp := hP2.ptr.cell 0 _ rfl

        have c9 := hP2.box.cell 9 _ rfl
        obtain ⟨hv1, hv2⟩ : m.vec.length < 257 ∧ ∀ x ∈ m.vec, x < 18446744073709551616 := hoki
        have hwl : IntKind.u64.wrap (m.vec.length : Int) = (m.vec.length : Int) := IntWalk.u64_in _ ⟨by omega, by omega⟩
        have HV2 := Go.Lib.hid hv2
        clear hv2
        gi_wp2_with fail
        refine ⟨trivial, (CallsIn.inRound _ (callsIn_wide.2 (ps_uint hP2 m.vec.length (by omega) (by omega)))).mono ?_⟩
        rintro e W3 ⟨rfl, hP3, hk3⟩
        have hB3 := hB2.kp hk3 (fun h => h.1 rfl) (fun h => h.2 rfl)
        have c9' := hP3.box.cell 9 _ rfl
        have hel := NB.encU_len (x := m.vec.length) (by omega)
        clear hP2 hB2 cp c9 hk3
        gi_wp2_with fail
        gi_loopw [35] (fun q wr => ∃ j : Nat, j ≤ m.vec.length ∧ q = .int .i64 j ∧ NB.Bk L .busy wr ∧ PS w m av cv ab cb pw w3.heap.size w.heap.size w4.heap.size (w4.heap.size + 1) w6.heap.size m.kind (bs ++ encU m.vec.length ++ (m.vec.take j).flatMap encU) wr) (fun q _ => m.vec.length - (intOf q).toNat)
        case atStart => exact ⟨0, by omega, rfl, hB3, by rw [List.take_zero, List.flatMap_nil, List.append_nil]; exact hP3⟩
        case round =>
          clear hP3 hB3 c9'
          obtain ⟨j, hj, rfl, hBj, hPj⟩ := hrel
          have cpj := hPj.ptr.cell 0 _ rfl
          by_cases hjl : j < m.vec.length
          · have hji : (j : Int) < (m.vec.length : Int) := by omega
            obtain ⟨bv, ov, hcv, hav⟩ := hR.vec.at j hjl
            subst hav
            have hcj := (Below.cell hPj.bel (World.block_lt_of_cell? _ _ hcv)).trans hcv
            have hxj : m.vec.getD j 0 < 18446744073709551616 := by rw [List.getD_eq_getElem?_getD, List.getElem?_eq_getElem hjl]; exact HV2.out _ (List.getElem_mem hjl)
            have hlt := encs_len (m.vec.take j) (fun x hx => HV2.out x (List.mem_of_mem_take hx))
            have htl : (m.vec.take j).length ≤ 256 := by rw [List.length_take]; omega
            have hlen2 : (bs ++ encU m.vec.length ++ (m.vec.take j).flatMap encU).length ≤ 100000000 := by simp only [List.length_append]; omega
            have hnx : m.vec.take (j + 1) = m.vec.take j ++ [m.vec.getD j 0] := by rw [List.take_add_one, List.getD_eq_getElem?_getD, List.getElem?_eq_getElem hjl]; rfl
            obtain ⟨xj, hxe⟩ : ∃ xj, m.vec.getD j 0 = xj := ⟨_, rfl⟩
            rw [hxe] at hcj hxj hnx
            have HNX := Go.Lib.hid hnx
            clear hnx hxe hcv
            gi_wp2_with fail
            refine ⟨trivial, (CallsIn.inRound _ (callsIn_wide.2 (ps_uint hPj xj hxj hlen2))).mono ?_⟩
            rintro e W4 ⟨rfl, hP4, hk4⟩
            have hB4 := hBj.kp hk4 (fun h => h.1 rfl) (fun h => h.2 rfl)
            gi_wp2_with fail
            exact ⟨⟨j + 1, by omega, by simp, hB4, by rw [HNX.out, List.flatMap_append, ← List.append_assoc]; simpa using hP4⟩, by simp [intOf]; omega⟩
          · obtain rfl : j = m.vec.length := by omega
            have hji : ¬ ((m.vec.length : Nat) : Int) < (m.vec.length : Int) := by omega
            rw [List.take_length, List.append_assoc] at hPj
            gi_wp2_with fail
            first | exact hPj.loop _ | exact ⟨hBj, hPj.loop _⟩
      · have hp : ((2 ^ 9 : Nat) : Int) = 512 := rfl
        rw [hp]
        gi_wp2_with fail
        refine ⟨HBK.out, ?_⟩
        clear HBK
        obtain ⟨W2, hW2⟩ : ∃ W2, W.putObj (w6.heap.size + 1) (.loop (L.at_ .busy none)) = W2 := ⟨_, rfl⟩
        rw [hW2] at hB2 hP2 ⊢
        clear hW2
        have cp := hP2.ptr.cell 0 _ rfl

        have c10 := hP2.box.cell 10 _ rfl
        have hb9 : m.body.length ≤ 32768 := hoki
        gi_wp2_with fail
        refine ⟨trivial, (CallsIn.inRound _ (callsIn_wide.2 (ps_bytes hP2 ab m.body.length cb m.body hR.body (by omega)))).mono ?_⟩
        rintro e W3 ⟨rfl, hP3, hk3⟩
        have hB3 := hB2.kp hk3 (fun h => h.1 rfl) (fun h => h.2 rfl)
        gi_wp2_with fail
        first | exact hP3.loop _ | exact ⟨hB3, hP3.loop _⟩
    · rintro e W' ⟨he, (⟨hBk, hP⟩ | hf)⟩
      · exact ⟨he, hBk, hP⟩
      · exact hf.elim
  case hdone =>
    intro W' o hP hlt hd
    have P4 := hP.loop o
    have hd4 : (W'.putObj (w6.heap.size + 1) o).heap[w6.heap.size]? = some (.deferred (some [])) := (World.putObj_heap_other (by omega)).trans hd
    obtain ⟨W4, hW4⟩ : ∃ W4, W'.putObj (w6.heap.size + 1) o = W4 := ⟨_, rfl⟩
    rw [hW4] at P4 hd4 ⊢
    rw [preL_all m (by omega)] at P4
    have hbl := body_len m hok
    have hfr : fputM (UInt8.ofNat m.kind.toNat, bodyL m) = (fbL (frOfM m), 0) := (by rw [← mput_ok hc hW]; unfold mputM; rw [if_pos hc]; rfl)
    have hw8 : IntKind.u8.wrap m.kind = ((UInt8.ofNat m.kind.toNat).toNat : Int) := by rw [IntKind.wrap_u8, UInt8.toNat_ofNat']; omega
    obtain ⟨kb, hkb⟩ : ∃ kb, UInt8.ofNat m.kind.toNat = kb := ⟨_, rfl⟩
    obtain ⟨PL, hPL⟩ : ∃ PL, bodyL m = PL := ⟨_, rfl⟩
    rw [hkb] at hfr hw8
    rw [hPL] at hfr P4 hbl
    have HFR := Go.Lib.hid hfr
    clear hfr hP hd hW4 hw6 RB6 RP6 RK6 B6 hkb hPL hkt
    gi_wp2_with fail
    refine wpIn_wide.2 ?_
    refine NB.wp_region_m (by kernel_rfl) ?_
    have P5 := P4.below (dB _)
    have hd5 := (Below.block (dB W4) _ (by have := P4.lt; omega)).trans hd4
    clear P4 hd4
    generalize hw5 : World.drew _ = W5 at *
    clear hw5
    refine NB.any_p 0 rfl (by kernel_rfl) (fun K hK => ?_); go_simp; refine hK _ ?_; clear hK K
    refine NB.any_r 1 rfl (by kernel_rfl) rfl _ (fun w' hw' => NB.run_op_load rfl rfl Tryd.underlying3 rfl ((P5.box.cell 0 _ rfl)) hw') (fun K hK => ?_); go_simp; refine hK _ ?_; clear hK K
    refine NB.any_p 2 rfl (by kernel_rfl) (fun K hK => ?_); go_simp; refine hK _ ?_; clear hK K
    refine NB.any_r 3 rfl (by kernel_rfl) rfl _ (fun w' hw' => NB.run_op_load rfl rfl Tryd.underlying78 rfl ((P5.ptr.cell 0 _ rfl)) hw') (fun K hK => ?_); go_simp; refine hK _ ?_; clear hK K
    obtain ⟨F5, hw5, hF5⟩ := P5.wr
    refine NB.any_e 4 rfl (by kernel_rfl) (fun K hK => ?_); unfold NB.moves; go_simp; refine (wout_any W5 w3.heap.size pw F5 PL hw5 (by omega)).mono ?_; rintro e W6 ⟨a6, c6, rfl, ho6, hb6⟩; refine ⟨_, rfl, hb6, hK _ _ ?_⟩; clear hK K
    have P6 := P5.below hb6
    have hd6 := (Below.block hb6 _ (by have := P5.lt; omega)).trans hd5
    obtain ⟨_, _, e9, hr6, _⟩ := NB.rd_of_own ho6
    cases e9
    clear P5 hd5 hw5 hF5 ho6 hb6
    refine NB.any_p 5 rfl (by kernel_rfl) (fun K hK => ?_); go_simp; refine hK _ ?_; clear hK K
    have hfp := fput_any W6 kb a6 PL.length c6 PL hr6
    rw [HFR.out] at hfp
    refine NB.any_e 6 rfl (by kernel_rfl) (fun K hK => ?_); unfold NB.moves; go_simp; refine hfp.mono ?_; rintro e W7 ⟨a7, c7, rfl, ho7, hb7⟩; refine ⟨_, rfl, hb7, hK _ _ ?_⟩; clear hK K
    refine NB.any_p 7 rfl (by kernel_rfl) (fun K hK => ?_); go_simp; refine hK _ ?_; clear hK K
    refine NB.any_p 8 rfl (by kernel_rfl) (fun K hK => ?_); go_simp; refine hK _ ?_; clear hK K
    refine NB.any_p 9 rfl (by kernel_rfl) (fun K hK => ?_); go_simp; refine hK _ ?_; clear hK K
    refine NB.any_p 10 rfl (by kernel_rfl) (fun K hK => ?_); go_simp; refine hK _ ?_; clear hK K
    refine NB.any_end (by kernel_rfl) ?_
    have hd7 : W7.heap[w6.heap.size]? = some (.deferred (some [])) := (Below.block hb7 _ (by have := P6.lt; omega)).trans hd6
    have hl6 := P6.lt
    have B7 := NB.bel P6.bel hb7 P6.bel.size
    have hkp := NB.kp_put W7 w6.heap.size (.deferred none)
    have ho8 : NB.OwnB (W7.putObj w6.heap.size (.deferred none)) w.heap.size 5 (.slice a7 (fbL (frOfM m)).length c7) (fbL (frOfM m)) :=
      NB.own_mono (hkp.own ho7 (fun i e hi => by subst hi; have := ho7.lt _ e; omega)) P6.bel.size
    have FIN : BytE w (fbL (frOfM m), 0) (.returned (.tuple #[.slice a7 (fbL (frOfM m)).length c7, .int .i64 0])) (W7.putObj w6.heap.size (.deferred none)) :=
      ⟨a7, c7, rfl, ho8, B7.trans (hkp.belowB B7.size (by rintro k rfl; omega))⟩
    rw [hs6] at FIN hd7
    have HF := Go.Lib.hid FIN
    have HD := Go.Lib.hid hd7
    clear FIN hd7 ho8 hkp B7 hb7 ho7 P6 hd6 hl6 hw8 HFR
    gi_wp2_with fail
    refine ⟨by simp, .inl ⟨_, _, rfl, run_takeDeferred HD.out, ?_⟩⟩
    refine ⟨.tuple #[.slice a7 (fbL (frOfM m)).length c7, .int .i64 0], by simp [results, Tryd.results15, go_sem], ?_⟩
    exact HF.out
end Go.Proofs.YtadgokegjmigoaaDoor
