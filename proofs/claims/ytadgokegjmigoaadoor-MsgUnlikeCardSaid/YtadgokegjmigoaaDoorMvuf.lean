/- Proves the card MsgUnlikeCardSaid: for every input the law MsgUnlike returns true and leaves its arguments as they were; the listed table is tied to the program's text. No condition. -/
import Derived.Test.YtadgokegjmigoaaDoorMvu
import Derived.Test.YtadgokegjmigoaaDoorMgo
import Derived.Test.YtadgokegjmigoaaDoorCards
import Derived.Test.YtadgokegjmigoaaDoorTie
import Derived.Test.YtadgokegjmigoaaDoorOpen
import Derived.Test.YtadgokegjmigoaaDoorOpb
import Derived.Test.YtadgokegjmigoaaDoorOpm
import Derived.SevenTiedAt
namespace Go.Proofs.YtadgokegjmigoaaDoor
open Go.ChangeShapes Go.WideShapes Go.ChangeAt Go.RowKit
open Go.ChangeMaps (open_string shut_string)

theorem msgUnlike.own : ownKnob Tryd.prog.godebug = none := by kernel_rfl
theorem msgUnlike.laidOut : laidOutB Tryd.prog = true := by kernel_rfl
set_option maxRecDepth 100000 in
theorem msgUnlike.lifted (os : Os) (started : os.Started) (H : Type) (enc : TypeId × Value → H) :
    ReturnsInHanded {} Tryd.checked os 8 .any (fun w args => (Rows.msgUnlikeSpec.pre enc Tryd.prog Tryd.f8 [] false w args ∧ laidMetH Tryd.prog laidL w) ∧ sizedMet enc Tryd.prog Tryd.f8 (OpenSpec.ofChange Rows.msgUnlikeSpec) false w args) (Rows.msgUnlikeSpec.post enc Tryd.prog Tryd.f8 false true false false) := by
  have own := msgUnlike.own
  have laidOut := msgUnlike.laidOut
  refine returnsInHanded_of_change_and (C := Tryd.checked) (X := fun w _ => laidMetH Tryd.prog laidL w) (fun _ _ _ hh h => h.of_heap hh) own started (by kernel_rfl) Tryd.func8
    (ChangeSpec.witness_shaped (enc := enc) (C := Tryd.checked) (os := os) (X := fun w _ => laidMetH Tryd.prog laidL w) false (World.doorLaid Tryd.prog 400 os) #[.agg #[.int .i64 0, .int .u64 0, .int .u64 0, .int .i64 0, .int .i64 0, .int .u64 0, .int .u64 0, .int .u64 0, .int .i64 0, .slice none 0 0, .slice none 0 0], .agg #[.int .i64 0, .int .u64 0, .int .u64 0, .int .i64 0, .int .i64 0, .int .u64 0, .int .u64 0, .int .u64 0, .int .i64 0, .slice none 0 0, .slice none 0 0], .bool false] 8 rfl (World.shaped_of_RefB (by kernel_rfl) (by kernel_rfl)) (by kernel_rfl) (by kernel_rfl) (by kernel_rfl) (door_met os _)) ?_
  intro W base args ds gs before hval0 hW _ _ hL _
  have hval : ∀ (j : Nat) t v, Tryd.f8.params[j]? = some t → args[j]? = some v → Value.okWide Tryd.prog W .any base t v := hval0
  have hW' := hW
  obtain ⟨p, q, hA0, hV, rfl, hfz, hnd⟩ := hW
  have hA : DataW.TrodAll enc Tryd.prog W 0 (fun _ => true) true Tryd.f8.params.toList args.toList ds p := hA0
  rw [Tryd.params8] at hA hval
  obtain ⟨v0, vs0, d0, ds0, p0, q0, hargs, rfl, rfl, h0, r0⟩ := trodAll_cons hA
  obtain ⟨v1, vs1, d1, ds1, p1, q1, rfl, rfl, rfl, h1, r1⟩ := trodAll_cons r0
  obtain ⟨v2, vs2, d2, ds2, p2, q2, rfl, rfl, rfl, h2, r2⟩ := trodAll_cons r1
  obtain ⟨rfl, rfl, rfl⟩ := trodAll_nil r2
  obtain rfl : args = #[v0, v1, v2] := by cases args; simp_all
  obtain ⟨rfl, rfl⟩ := trodVars_none hV
  have k0 := h0
  have lt0 : ∀ x ∈ p0, x.block < W.heap.size := by obtain ⟨m, hm⟩ := k0; exact DataW.trod_lt m _ _ _ hm
  obtain ⟨m0, av0, cv0, ab0, cb0, rfl, wx0, w0⟩ := open_M Tryd.underlying32 (NB.flat11 rfl rfl rfl rfl rfl rfl rfl rfl rfl rfl rfl (by kernel_rfl) (by kernel_rfl) (by kernel_rfl) (by kernel_rfl) (by kernel_rfl) (by kernel_rfl) (by kernel_rfl) (by kernel_rfl) (by kernel_rfl) (by kernel_rfl) (by kernel_rfl)) (by kernel_rfl) Tryd.underlying3 Tryd.underlying29 Tryd.underlying29 Tryd.underlying3 Tryd.underlying3 Tryd.underlying29 Tryd.underlying29 Tryd.underlying29 Tryd.underlying3 Tryd.underlying30 Tryd.underlying29 (by kernel_rfl) Tryd.underlying22 Tryd.underlying5 (by kernel_rfl) (hval 0 32 v0 rfl rfl) h0
  have k1 := h1
  have lt1 : ∀ x ∈ p1, x.block < W.heap.size := by obtain ⟨m, hm⟩ := k1; exact DataW.trod_lt m _ _ _ hm
  obtain ⟨m1, av1, cv1, ab1, cb1, rfl, wx1, w1⟩ := open_M Tryd.underlying32 (NB.flat11 rfl rfl rfl rfl rfl rfl rfl rfl rfl rfl rfl (by kernel_rfl) (by kernel_rfl) (by kernel_rfl) (by kernel_rfl) (by kernel_rfl) (by kernel_rfl) (by kernel_rfl) (by kernel_rfl) (by kernel_rfl) (by kernel_rfl) (by kernel_rfl)) (by kernel_rfl) Tryd.underlying3 Tryd.underlying29 Tryd.underlying29 Tryd.underlying3 Tryd.underlying3 Tryd.underlying29 Tryd.underlying29 Tryd.underlying29 Tryd.underlying3 Tryd.underlying30 Tryd.underlying29 (by kernel_rfl) Tryd.underlying22 Tryd.underlying5 (by kernel_rfl) (hval 1 32 v1 rfl rfl) h1
  obtain ⟨i2, rfl, rfl, rfl⟩ := NB.open_bool Tryd.underlying4 (hval 2 4 v2 rfl rfl) h2
  clear hA0 hval0
  refine (law_munlike W (of_laid hL) m0 av0 cv0 ab0 cb0 m1 av1 cv1 ab1 cb1 i2 wx0 w0 wx1 w1 ).mono fun e W' ⟨he, bel⟩ => ?_
  subst he
  exact ⟨_, rfl, _, _, _, [], _, [], hW', trodAll_mk1 (shut_bool Tryd.underlying4 _), (trodAll_cons_mk (Below.trod laidOut (by kernel_rfl) (of_decide_eq_true (by kernel_rfl)) k0 bel lt0) (trodAll_cons_mk (Below.trod laidOut (by kernel_rfl) (of_decide_eq_true (by kernel_rfl)) k1 bel lt1) (trodAll_cons_mk (shut_bool Tryd.underlying4 _) trodAll_mk0))), rfl, bel.frame _, fun h => by cases h⟩

theorem msgUnlike.row : Rows.MsgUnlikeSaid :=
  OpenClaim.holds_of_wide 8 Tryd.f8 rfl rfl rfl rfl rfl rfl rfl ⟨rfl, rfl, rfl, rfl, rfl⟩ rfl rfl rfl rfl rfl (by kernel_rfl) Tryd.func8 (by kernel_rfl)
    (of_decide_eq_true (by kernel_rfl)) (by unfold Func.isWrapper; first | (rw [if_pos (by decide +kernel)]; kernel_rfl) | (rw [if_neg (by decide +kernel)]; exact ⟨rfl, rfl⟩))
    (fun os started H enc _ => msgUnlike.lifted os started H enc)

theorem msgUnlike_holds : Rows.MsgUnlikeCardSaid :=
  Claim7.holds_tied_plain_at .later [] [.data] true (true, "05f4fc51d6b2585ef38ce8001e7acb1ba2597c61eb6e8edf16a3b37318d395aa") false
    msgUnlike.row (fun _ h => by cases h) (by kernel_rfl) (fun _ h => by cases h) msgUnlike_row_tie rfl ⟨rfl, rfl⟩ (by kernel_rfl) rfl
    (fun f fn hf hfn => by
      obtain rfl : f = 8 := Option.some.inj ((show Tryd.prog.funcNamed "notcher/notcherlaw04.MsgUnlike" = some 8 by kernel_rfl).symm.trans hf) |>.symm
      obtain rfl : fn = Tryd.f8 := (Option.some.inj (Tryd.func8.symm.trans hfn)).symm
      exact ⟨by kernel_rfl, fun j t ht => by
        rw [Tryd.params8] at ht
        have hm : t ∈ [32, 32, 4] := by simpa using Array.mem_of_getElem? ht
        have hall : ([32, 32, 4].all fun u => !Tryd.prog.wantsStandIn u) = true := by kernel_rfl
        exact (show Tryd.prog.wantsStandIn t = false by simpa using List.all_eq_true.1 hall t hm)⟩)
    (by kernel_rfl)
#print axioms msgUnlike_holds
end Go.Proofs.YtadgokegjmigoaaDoor
