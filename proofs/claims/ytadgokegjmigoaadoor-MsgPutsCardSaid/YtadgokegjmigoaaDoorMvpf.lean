/- Proves the card MsgPutsCardSaid: for every input the law MsgPuts returns true and leaves its arguments as they were; the listed table is tied to the program's text. No condition. -/
import Derived.Test.YtadgokegjmigoaaDoorMvp
import Derived.Test.YtadgokegjmigoaaDoorMgo
import Derived.Test.YtadgokegjmigoaaDoorCards
import Derived.Test.YtadgokegjmigoaaDoorTie
import Derived.Test.YtadgokegjmigoaaDoorOpen
import Derived.Test.YtadgokegjmigoaaDoorOpm
import Derived.SevenTiedAt
namespace Go.Proofs.YtadgokegjmigoaaDoor
open Go.ChangeShapes Go.WideShapes Go.ChangeAt Go.RowKit
open Go.ChangeMaps (open_string shut_string)

theorem msgPuts.own : ownKnob Tryd.prog.godebug = none := by kernel_rfl
theorem msgPuts.laidOut : laidOutB Tryd.prog = true := by kernel_rfl
set_option maxRecDepth 100000 in
theorem msgPuts.lifted (os : Os) (started : os.Started) (H : Type) (enc : TypeId × Value → H) :
    ReturnsInHanded {} Tryd.checked os 4 .any (fun w args => (Rows.msgPutsSpec.pre enc Tryd.prog Tryd.f4 [] false w args ∧ laidMetH Tryd.prog laidL w) ∧ sizedMet enc Tryd.prog Tryd.f4 (OpenSpec.ofChange Rows.msgPutsSpec) false w args) (Rows.msgPutsSpec.post enc Tryd.prog Tryd.f4 false true false false) := by
  have own := msgPuts.own
  have laidOut := msgPuts.laidOut
  refine returnsInHanded_of_change_and (C := Tryd.checked) (X := fun w _ => laidMetH Tryd.prog laidL w) (fun _ _ _ hh h => h.of_heap hh) own started (by kernel_rfl) Tryd.func4
    (ChangeSpec.witness_shaped (enc := enc) (C := Tryd.checked) (os := os) (X := fun w _ => laidMetH Tryd.prog laidL w) false (World.doorLaid Tryd.prog 400 os) #[.agg #[.int .i64 0, .int .u64 0, .int .u64 0, .int .i64 0, .int .i64 0, .int .u64 0, .int .u64 0, .int .u64 0, .int .i64 0, .slice none 0 0, .slice none 0 0]] 8 rfl (World.shaped_of_RefB (by kernel_rfl) (by kernel_rfl)) (by kernel_rfl) (by kernel_rfl) (by kernel_rfl) (door_met os _)) ?_
  intro W base args ds gs before hval0 hW _ _ hL _
  have hval : ∀ (j : Nat) t v, Tryd.f4.params[j]? = some t → args[j]? = some v → Value.okWide Tryd.prog W .any base t v := hval0
  have hW' := hW
  obtain ⟨p, q, hA0, hV, rfl, hfz, hnd⟩ := hW
  have hA : DataW.TrodAll enc Tryd.prog W 0 (fun _ => true) true Tryd.f4.params.toList args.toList ds p := hA0
  rw [Tryd.params4] at hA hval
  obtain ⟨v0, vs0, d0, ds0, p0, q0, hargs, rfl, rfl, h0, r0⟩ := trodAll_cons hA
  obtain ⟨rfl, rfl, rfl⟩ := trodAll_nil r0
  obtain rfl : args = #[v0] := by cases args; simp_all
  obtain ⟨rfl, rfl⟩ := trodVars_none hV
  have k0 := h0
  have lt0 : ∀ x ∈ p0, x.block < W.heap.size := by obtain ⟨m, hm⟩ := k0; exact DataW.trod_lt m _ _ _ hm
  obtain ⟨m0, av0, cv0, ab0, cb0, rfl, wx0, w0⟩ := open_M Tryd.underlying32 (NB.flat11 rfl rfl rfl rfl rfl rfl rfl rfl rfl rfl rfl (by kernel_rfl) (by kernel_rfl) (by kernel_rfl) (by kernel_rfl) (by kernel_rfl) (by kernel_rfl) (by kernel_rfl) (by kernel_rfl) (by kernel_rfl) (by kernel_rfl) (by kernel_rfl)) (by kernel_rfl) Tryd.underlying3 Tryd.underlying29 Tryd.underlying29 Tryd.underlying3 Tryd.underlying3 Tryd.underlying29 Tryd.underlying29 Tryd.underlying29 Tryd.underlying3 Tryd.underlying30 Tryd.underlying29 (by kernel_rfl) Tryd.underlying22 Tryd.underlying5 (by kernel_rfl) (hval 0 32 v0 rfl rfl) h0
  clear hA0 hval0
  refine (law_mputs W (of_laid hL) m0 av0 cv0 ab0 cb0 wx0 w0).mono fun e W' ⟨he, bel⟩ => ?_
  subst he
  exact ⟨_, rfl, _, _, _, [], _, [], hW', trodAll_mk1 (shut_bool Tryd.underlying4 _), (trodAll_cons_mk (Below.trod laidOut (by kernel_rfl) (of_decide_eq_true (by kernel_rfl)) k0 bel lt0) trodAll_mk0), rfl, bel.frame _, fun h => by cases h⟩

theorem msgPuts.row : Rows.MsgPutsSaid :=
  OpenClaim.holds_of_wide 4 Tryd.f4 rfl rfl rfl rfl rfl rfl rfl ⟨rfl, rfl, rfl, rfl, rfl⟩ rfl rfl rfl rfl rfl (by kernel_rfl) Tryd.func4 (by kernel_rfl)
    (of_decide_eq_true (by kernel_rfl)) (by unfold Func.isWrapper; first | (rw [if_pos (by decide +kernel)]; kernel_rfl) | (rw [if_neg (by decide +kernel)]; exact ⟨rfl, rfl⟩))
    (fun os started H enc _ => msgPuts.lifted os started H enc)

theorem msgPuts_holds : Rows.MsgPutsCardSaid :=
  Claim7.holds_tied_plain_at .later [] [.data] true (true, "05f4fc51d6b2585ef38ce8001e7acb1ba2597c61eb6e8edf16a3b37318d395aa") false
    msgPuts.row (fun _ h => by cases h) (by kernel_rfl) (fun _ h => by cases h) msgPuts_row_tie rfl ⟨rfl, rfl⟩ (by kernel_rfl) rfl
    (fun f fn hf hfn => by
      obtain rfl : f = 4 := Option.some.inj ((show Tryd.prog.funcNamed "notcher/notcherlaw04.MsgPuts" = some 4 by kernel_rfl).symm.trans hf) |>.symm
      obtain rfl : fn = Tryd.f4 := (Option.some.inj (Tryd.func4.symm.trans hfn)).symm
      exact ⟨by kernel_rfl, fun j t ht => by
        rw [Tryd.params4] at ht
        have hm : t ∈ [32] := by simpa using Array.mem_of_getElem? ht
        have hall : ([32].all fun u => !Tryd.prog.wantsStandIn u) = true := by kernel_rfl
        exact (show Tryd.prog.wantsStandIn t = false by simpa using List.all_eq_true.1 hall t hm)⟩)
    (by kernel_rfl)
#print axioms msgPuts_holds
end Go.Proofs.YtadgokegjmigoaaDoor
