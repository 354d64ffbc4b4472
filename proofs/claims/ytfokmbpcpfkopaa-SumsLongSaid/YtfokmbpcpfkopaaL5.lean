/- Proves the statement SumsLongSaid: for every input the law SumsLong returns true and leaves its argument as it was. No condition. -/
import Derived.Test.YtfokmbpcpfkopaaT5
import Derived.Test.YtfokmbpcpfkopaaAny
import Derived.Test.YtfokmbpcpfkopaaOpen
namespace Go.Proofs.Ytfokmbpcpfkopaa
open Go.ChangeShapes Go.WideShapes Go.ChangeAt Go.RowKit
open Go.ChangeMaps (open_string shut_string)
open Go.NB.Crc
open Go.NB (Rd)

theorem sealedL_len (l : List UInt8) : (sealedL l).length = l.length + 4 := by simp [sealedL, four]
theorem sealedL_take (l : List UInt8) : (sealedL l).take l.length = l := by simp [sealedL]
theorem right_sealed (l : List UInt8) : rightL (sealedL l) = true := by
  unfold rightL
  rw [sealedL_len, Nat.add_sub_cancel, sealedL_take]
  simp

set_option maxHeartbeats 1000000 in
theorem law5_core (w : World) (a : Option Addr) (c : Nat) (bs s1 s2 : List UInt8) (h : NB.RdB w a bs.length c bs) (h300 : bs.length ≤ 300)
    (e1 : sealedL bs = s1) (e2 : sealedL s1 = s2) (l1 : s1.length = bs.length + 4) (l2 : s2.length = bs.length + 8) (hr2 : rightL s2 = true) (hr1 : rightL s1 = true) (t2 : s2.take (bs.length + 4) = s1) (t1 : s2.take bs.length = bs)
    (hb : bs.length < 4 → rightL bs = false) :
    Calls Try.prog 7 #[.slice a bs.length c] w fun e w' => e = .returned (.bool true) ∧ Below w.heap.size w w' := by
  have hbd := Rd.bound h
  have E1 := Go.Lib.hid e1; have E2 := Go.Lib.hid e2; have L1 := Go.Lib.hid l1; have L2 := Go.Lib.hid l2; have T2 := Go.Lib.hid t2; have T1 := Go.Lib.hid t1; have HB := Go.Lib.hid hb
  have k1 : s1.length ≤ 304 := by omega
  have k2 : s2.length ≤ 308 := by omega
  have k3 : 8 ≤ s2.length := by omega
  have e0 : ((s2.length : Int) - 4) = ((bs.length + 4 : Nat) : Int) := by omega
  have hlt : bs.length + 4 ≤ s2.length := by omega
  clear e1 e2 l1 l2 t2 t1 hb
  go_enter Try.func7, Try.ntmps7
  go_wp2_with (first
    | (go_at_call 8; refine (awake_any _).mono ?_; rintro e w1 ⟨rfl, hb1⟩))
  refine (sealed_any _ _ _ _ _ (Rd.below h hb1) (by omega)).mono ?_
  rw [E1.out]
  rintro e w2 ⟨a2, c2, rfl, ho2, hb2⟩
  obtain ⟨a2', c2', e2', hr2', hf2, _⟩ := NB.rd_of_own ho2; cases e2'
  have B2 : Below w.heap.size w w2 := hb1.trans (hb2.mono hb1.size)
  clear ho2 hf2 hb2
  go_wp2_with fail
  refine (sealed_any _ _ _ _ _ hr2' (by omega)).mono ?_
  rw [E2.out]
  rintro e w3 ⟨a3, c3, rfl, ho3, hb3⟩
  obtain ⟨a3', c3', e3', hr3, hf3, _⟩ := NB.rd_of_own ho3; cases e3'
  have B3 : Below w.heap.size w w3 := B2.trans (hb3.mono B2.size)
  clear ho3 hf3 hb3 hr2' B2
  go_wp2_with fail
  refine (right_any _ _ _ _ _ hr3 (by omega)).mono ?_
  rintro e w4 ⟨rfl, hb4⟩
  have B4 : Below w.heap.size w w4 := B3.trans (hb4.mono B3.size)
  have h4 := Rd.below hr3 hb4
  have hsl := Rd.le h4
  clear hr3 hb4 B3
  have hcut : NB.RdB w4 a3 (bs.length + 4) c3 s1 := by
    have := NB.rdB_cut h4 (bs.length + 4) hlt
    rwa [T2.out] at this
  go_wp2_with fail
  refine (right_any _ _ _ _ _ hcut (by omega)).mono ?_
  rw [hr1]
  rintro e w5 ⟨rfl, hb5⟩
  have B5 : Below w.heap.size w w5 := B4.trans (hb5.mono B4.size)
  have h5 := Rd.below h4 hb5
  clear hcut hb5 B4 h4
  have L2' := L2.out
  have e9 : ((s2.length : Int) == (bs.length : Int) + 8) = true := by simp; omega
  clear L2'
  have hfew : ∀ (w' : World), Below w.heap.size w w' → Calls Try.prog 13 #[.slice a bs.length c] w' fun e w'' => e = .returned (.bool (rightL bs)) ∧ Below w'.heap.size w' w'' :=
    fun w' hw' => right_any _ _ _ _ _ (Rd.below h hw') (by omega)
  have fin : ∀ (w' : World), Below w.heap.size w w' → Below w5.heap.size w5 w' → True := fun _ _ _ => trivial
  by_cases hb4 : bs.length < 4
  case' pos =>
    have hrb := HB.out hb4
    go_wp2_with fail
    refine (hfew _ B5).mono ?_
    rw [hrb]
    rintro e w6 ⟨rfl, hb6⟩
    have B6 : Below w.heap.size w w6 := B5.trans (hb6.mono B5.size)
    have h6 := Rd.below h5 hb6
    clear hb6 B5 h5 hfew fin hrb
    go_wp2
  case' neg =>
    clear hfew fin
    go_wp2
    have B6 := B5
    have h6 := h5
    clear B5 h5
  all_goals
    have hwr : IntKind.i64.wrap ((bs.length : Int) + 8) = (bs.length : Int) + 8 := IntWalk.i64_in _ (by omega)
    have hbc : bs.length ≤ c3 := by omega
    refine NB.wp_region_m (by kernel_rfl) ?_
    have B6d := B6.drew
    have h1f := NB.rdB_cut (Rd.below h6 (Below.refl _ _).drew) bs.length (by omega)
    rw [T1.out] at h1f
    have h0f := Rd.below h B6d
    generalize World.drew _ = v1 at *
    refine NB.any_p 0 rfl (by kernel_rfl) (fun K hK => ?_); go_simp; refine hK _ ?_; clear hK K
    refine NB.any_p 1 rfl (by kernel_rfl) (fun K hK => ?_); go_simp; refine hK _ ?_; clear hK K
    refine NB.any_p 2 rfl (by kernel_rfl) (fun K hK => ?_); go_simp; refine hK _ ?_; clear hK K
    refine NB.any_p 3 rfl (by kernel_rfl) (fun K hK => ?_); go_simp; refine hK _ ?_; clear hK K
    refine NB.any_p 4 rfl (by kernel_rfl) (fun K hK => ?_); go_simp; refine hK _ ?_; clear hK K
    refine NB.any_p 5 rfl (by kernel_rfl) (fun K hK => ?_); go_simp; refine hK _ ?_; clear hK K
    refine NB.any_p 6 rfl (by kernel_rfl) (fun K hK => ?_); go_simp; refine hK _ ?_; clear hK K
    refine NB.any_p 7 rfl (by kernel_rfl) (fun K hK => ?_); go_simp; refine hK _ ?_; clear hK K
    refine NB.any_p 8 rfl (by kernel_rfl) (fun K hK => ?_); go_simp; refine hK _ ?_; clear hK K
    refine NB.any_p 9 rfl (by kernel_rfl) (fun K hK => ?_); go_simp; refine hK _ ?_; clear hK K
    refine NB.any_p 10 rfl (by kernel_rfl) (fun K hK => ?_); go_simp; refine hK _ ?_; clear hK K
    refine NB.any_p 11 rfl (by kernel_rfl) (fun K hK => ?_); go_simp; refine hK _ ?_; clear hK K
    refine NB.any_p 12 rfl (by kernel_rfl) (fun K hK => ?_); go_simp; refine hK _ ?_; clear hK K
    refine NB.any_p 13 rfl (by kernel_rfl) (fun K hK => ?_); go_simp; refine hK _ ?_; clear hK K
    refine NB.any_p 14 rfl (by kernel_rfl) (fun K hK => ?_); go_simp; refine hK _ ?_; clear hK K
    refine NB.any_p 15 rfl (by kernel_rfl) (fun K hK => ?_); go_simp; refine hK _ ?_; clear hK K
    refine NB.any_p 16 rfl (by kernel_rfl) (fun K hK => ?_); go_simp; refine hK _ ?_; clear hK K
    refine NB.any_p 17 rfl (by kernel_rfl) (fun K hK => ?_); go_simp; refine hK _ ?_; clear hK K
    refine NB.any_p 18 rfl (by kernel_rfl) (fun K hK => ?_); go_simp; refine hK _ ?_; clear hK K
    refine NB.any_p 19 rfl (by kernel_rfl) (fun K hK => ?_); go_simp; refine hK _ ?_; clear hK K
    refine NB.any_p 20 rfl (by kernel_rfl) (fun K hK => ?_); go_simp; refine hK _ ?_; clear hK K
    refine NB.any_r 21 rfl (by kernel_rfl) rfl _ (fun w' hw' => NB.run_op_conv_str Try.underlying23 Try.underlying5 Try.underlying9 rfl rfl (Rd.below h1f hw')) (fun K hK => ?_); go_simp; refine hK _ ?_; clear hK K
    refine NB.any_p 22 rfl (by kernel_rfl) (fun K hK => ?_); go_simp; refine hK _ ?_; clear hK K
    refine NB.any_r 23 rfl (by kernel_rfl) rfl _ (fun w' hw' => NB.run_op_conv_str Try.underlying23 Try.underlying5 Try.underlying9 rfl rfl (Rd.below h0f hw')) (fun K hK => ?_); go_simp; refine hK _ ?_; clear hK K
    refine NB.any_p 24 rfl (by kernel_rfl) (fun K hK => ?_); go_simp; refine hK _ ?_; clear hK K
    refine NB.any_p 25 rfl (by kernel_rfl) (fun K hK => ?_); go_simp; refine hK _ ?_; clear hK K
    refine NB.any_p 26 rfl (by kernel_rfl) (fun K hK => ?_); go_simp; refine hK _ ?_; clear hK K
    refine NB.any_end (by kernel_rfl) ?_
    go_wp2
    go_ret
    exact ⟨rfl, B6d⟩

theorem law5 (w : World) (a : Option Addr) (n c : Nat) (bs : List UInt8) (h : NB.RdB w a n c bs) :
    Calls Try.prog 7 #[.slice a n c] w fun e w' => e = .returned (.bool true) ∧ Below w.heap.size w w' := by
  obtain rfl : n = bs.length := (NB.RdB.size h).symm
  by_cases h300 : bs.length ≤ 300
  · refine law5_core w a c bs _ _ h h300 rfl rfl (sealedL_len bs) (by rw [sealedL_len, sealedL_len]) (right_sealed _) (right_sealed _) (by rw [← sealedL_len bs]; exact sealedL_take _) (by simp [sealedL]) (fun h => by simp [rightL]; omega)
  · have hbd := Rd.bound h
    go_enter Try.func7, Try.ntmps7
    go_wp2_with (first | (go_at_call 8; refine (awake_any _).mono ?_; rintro e w1 ⟨rfl, hb1⟩))
    go_ret
    exact ⟨rfl, hb1⟩

theorem sumsLong.own : ownKnob Try.prog.godebug = none := by kernel_rfl
theorem sumsLong.laidOut : laidOutB Try.prog = true := by kernel_rfl
set_option maxRecDepth 100000 in
theorem sumsLong.lifted (os : Os) (started : os.Started) (H : Type) (enc : TypeId × Value → H) :
    ReturnsInHanded {} Try.checked os 7 .any (Rows.sumsLongSpec.pre6 enc Try.prog Try.f7 Rows.sumsLongRow.domain false) (Rows.sumsLongSpec.post enc Try.prog Try.f7 false true false false) := by
  have own := sumsLong.own
  have laidOut := sumsLong.laidOut
  refine returnsInHanded_of_change (C := Try.checked) own started (by kernel_rfl) Try.func7
    (ChangeSpec.witness6 (enc := enc) (C := Try.checked) false ⟨#[], #[.slice none 0 0], []⟩ 8 (by kernel_rfl) (by kernel_rfl) (by kernel_rfl) (by kernel_rfl)) ?_
  intro W base args ds gs before hval0 hW hcnd _
  have hval : ∀ (j : Nat) t v, Try.f7.params[j]? = some t → args[j]? = some v → Value.okWide Try.prog W .any base t v := hval0
  have hW' := hW
  obtain ⟨p, q, hA0, hV, rfl, hfz, hnd⟩ := hW
  have hA : DataW.TrodAll enc Try.prog W 0 (fun _ => true) true Try.f7.params.toList args.toList ds p := hA0
  rw [Try.params7] at hA hval
  obtain ⟨v0, vs0, d0, ds0, p0, q0, hargs, rfl, rfl, h0, r0⟩ := trodAll_cons hA
  obtain ⟨rfl, rfl, rfl⟩ := trodAll_nil r0
  obtain rfl : args = #[v0] := by cases args; simp_all
  obtain ⟨rfl, rfl⟩ := trodVars_none hV
  obtain ⟨a0, n0, c0, rfl⟩ := okWide_slice Try.underlying23 (hval 0 23 v0 rfl rfl)
  have k0 := h0
  have lt0 : ∀ x ∈ p0, x.block < W.heap.size := by obtain ⟨m, hm⟩ := k0; exact DataW.trod_lt m _ _ _ hm
  obtain ⟨z0, w0⟩ := NB.open_B Try.underlying23 Try.underlying5 (by kernel_rfl) h0
  clear hA0 hval0
  refine (law5 W a0 n0 c0 z0 w0).mono fun e W' ⟨he, bel⟩ => ?_
  subst he
  exact ⟨_, rfl, _, _, _, [], _, [], hW', trodAll_mk1 (shut_bool Try.underlying4 _), (trodAll_cons_mk (Below.trod laidOut (by kernel_rfl) (of_decide_eq_true (by kernel_rfl)) k0 bel lt0) trodAll_mk0), rfl, bel.frame _, fun h => by cases h⟩

theorem sumsLong_holds : Rows.SumsLongSaid :=
  OpenClaim.holds_of_wide 7 Try.f7 rfl rfl rfl rfl rfl rfl rfl ⟨rfl, rfl, rfl, rfl, rfl⟩ rfl rfl rfl rfl rfl (by kernel_rfl) Try.func7 (by kernel_rfl)
    (of_decide_eq_true (by kernel_rfl)) (by unfold Func.isWrapper; first | (rw [if_pos (by decide +kernel)]; kernel_rfl) | (rw [if_neg (by decide +kernel)]; exact ⟨rfl, rfl⟩))
    (fun os started H enc _ => sumsLong.lifted os started H enc)
#print axioms sumsLong_holds
end Go.Proofs.Ytfokmbpcpfkopaa
