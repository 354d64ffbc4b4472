/- Proves the statement ConfUnlikeSaid: for every input the law ConfUnlike returns true and leaves its arguments as they were. No condition. -/
import Derived.Test.YtnkmlopgfgdajaaCgu
import Derived.Test.YtnkmlopgfgdajaaOpen
import Derived.Test.YtnkmlopgfgdajaaOpw
import Derived.Test.YtnkmlopgfgdajaaOpb
namespace Go.Proofs.Ytnkmlopgfgdajaa
open Go.ChangeShapes Go.WideShapes Go.ChangeAt Go.RowKit
open Go.ChangeMaps (open_string shut_string)

theorem confUnlike.own : ownKnob Try.prog.godebug = none := by kernel_rfl
theorem confUnlike.laidOut : laidOutB Try.prog = true := by kernel_rfl
set_option maxRecDepth 100000 in
theorem confUnlike.lifted (os : Os) (started : os.Started) (H : Type) (enc : TypeId × Value → H) :
    ReturnsInHanded {} Try.checked os 8 .any (Rows.confUnlikeSpec.pre6 enc Try.prog Try.f8 Rows.confUnlikeRow.domain false) (Rows.confUnlikeSpec.post enc Try.prog Try.f8 false true false false) := by
  have own := confUnlike.own
  have laidOut := confUnlike.laidOut
  refine returnsInHanded_of_change (C := Try.checked) own started (by kernel_rfl) Try.func8
    (ChangeSpec.witness6 (enc := enc) (C := Try.checked) false ⟨#[], #[.agg #[.int .i64 0, .int .u64 0, .int .u64 0, .int .i64 0, .int .i64 0, .int .u64 0, .slice none 0 0], .agg #[.int .i64 0, .int .u64 0, .int .u64 0, .int .i64 0, .int .i64 0, .int .u64 0, .slice none 0 0], .bool false], []⟩ 8 (by kernel_rfl) (by kernel_rfl) (by kernel_rfl) (by kernel_rfl)) ?_
  intro W base args ds gs before hval0 hW hcnd _
  have hval : ∀ (j : Nat) t v, Try.f8.params[j]? = some t → args[j]? = some v → Value.okWide Try.prog W .any base t v := hval0
  have hW' := hW
  obtain ⟨p, q, hA0, hV, rfl, hfz, hnd⟩ := hW
  have hA : DataW.TrodAll enc Try.prog W 0 (fun _ => true) true Try.f8.params.toList args.toList ds p := hA0
  rw [Try.params8] at hA hval
  obtain ⟨v0, vs0, d0, ds0, p0, q0, hargs, rfl, rfl, h0, r0⟩ := trodAll_cons hA
  obtain ⟨v1, vs1, d1, ds1, p1, q1, rfl, rfl, rfl, h1, r1⟩ := trodAll_cons r0
  obtain ⟨v2, vs2, d2, ds2, p2, q2, rfl, rfl, rfl, h2, r2⟩ := trodAll_cons r1
  obtain ⟨rfl, rfl, rfl⟩ := trodAll_nil r2
  obtain rfl : args = #[v0, v1, v2] := by cases args; simp_all
  obtain ⟨rfl, rfl⟩ := trodVars_none hV
  have k0 := h0
  have lt0 : ∀ x ∈ p0, x.block < W.heap.size := by obtain ⟨m, hm⟩ := k0; exact DataW.trod_lt m _ _ _ hm
  obtain ⟨o0, sh0, sg0, cl0, sq0, ps0, a0, n0, c0, z0, rfl, wx0, w0⟩ := open_C Try.underlying27 (NB.flat7 rfl rfl rfl rfl rfl rfl rfl (by kernel_rfl) (by kernel_rfl) (by kernel_rfl) (by kernel_rfl) (by kernel_rfl) (by kernel_rfl) (by kernel_rfl)) (by kernel_rfl) Try.underlying3 Try.underlying24 Try.underlying24 Try.underlying3 Try.underlying3 Try.underlying24 Try.underlying25 Try.underlying50 (NB.flat2 rfl rfl (by kernel_rfl) (by kernel_rfl)) (by kernel_rfl) Try.underlying3 Try.underlying48 Try.underlying24 (by kernel_rfl) (hval 0 27 v0 rfl rfl) h0
  have k1 := h1
  have lt1 : ∀ x ∈ p1, x.block < W.heap.size := by obtain ⟨m, hm⟩ := k1; exact DataW.trod_lt m _ _ _ hm
  obtain ⟨o1, sh1, sg1, cl1, sq1, ps1, a1, n1, c1, z1, rfl, wx1, w1⟩ := open_C Try.underlying27 (NB.flat7 rfl rfl rfl rfl rfl rfl rfl (by kernel_rfl) (by kernel_rfl) (by kernel_rfl) (by kernel_rfl) (by kernel_rfl) (by kernel_rfl) (by kernel_rfl)) (by kernel_rfl) Try.underlying3 Try.underlying24 Try.underlying24 Try.underlying3 Try.underlying3 Try.underlying24 Try.underlying25 Try.underlying50 (NB.flat2 rfl rfl (by kernel_rfl) (by kernel_rfl)) (by kernel_rfl) Try.underlying3 Try.underlying48 Try.underlying24 (by kernel_rfl) (hval 1 27 v1 rfl rfl) h1
  obtain ⟨i2, rfl, rfl, rfl⟩ := NB.open_bool Try.underlying4 (hval 2 4 v2 rfl rfl) h2
  clear hA0 hval0
  refine (law_cunlike W o0 sh0 sg0 cl0 sq0 ps0 a0 n0 c0 z0 o1 sh1 sg1 cl1 sq1 ps1 a1 n1 c1 z1 i2 wx0 w0 wx1 w1 ).mono fun e W' ⟨he, bel⟩ => ?_
  subst he
  exact ⟨_, rfl, _, _, _, [], _, [], hW', trodAll_mk1 (shut_bool Try.underlying4 _), (trodAll_cons_mk (Below.trod laidOut (by kernel_rfl) (of_decide_eq_true (by kernel_rfl)) k0 bel lt0) (trodAll_cons_mk (Below.trod laidOut (by kernel_rfl) (of_decide_eq_true (by kernel_rfl)) k1 bel lt1) (trodAll_cons_mk (shut_bool Try.underlying4 _) trodAll_mk0))), rfl, bel.frame _, fun h => by cases h⟩

theorem confUnlike_holds : Rows.ConfUnlikeSaid :=
  OpenClaim.holds_of_wide 8 Try.f8 rfl rfl rfl rfl rfl rfl rfl ⟨rfl, rfl, rfl, rfl, rfl⟩ rfl rfl rfl rfl rfl (by kernel_rfl) Try.func8 (by kernel_rfl)
    (of_decide_eq_true (by kernel_rfl)) (by unfold Func.isWrapper; first | (rw [if_pos (by decide +kernel)]; kernel_rfl) | (rw [if_neg (by decide +kernel)]; exact ⟨rfl, rfl⟩))
    (fun os started H enc _ => confUnlike.lifted os started H enc)
#print axioms confUnlike_holds
end Go.Proofs.Ytnkmlopgfgdajaa
