/- Proves the statement SumsByteSaid: for every input the law SumsByte returns true and leaves its arguments as they were. No condition. -/
import Derived.Test.YtfokmbpcpfkopaaT5
import Derived.Test.YtfokmbpcpfkopaaCrcb
import Derived.Test.YtfokmbpcpfkopaaOpen
namespace Go.Proofs.Ytfokmbpcpfkopaa
open Go.ChangeShapes Go.WideShapes Go.ChangeAt Go.RowKit
open Go.ChangeMaps (open_string shut_string)
open Go.NB.Crc
open Go.NB (Rd)

theorem xor_new (c : UInt8) (y : Nat) (hy : y < 256) : bits .xor .u8 (c.toNat : Int) (y : Int) = ((UInt8.ofNat (c.toNat ^^^ y)).toNat : Int) := by
  have hc := c.toNat_lt
  rw [u8_xor_nat _ _ (by omega) hy]
  have : c.toNat ^^^ y < 256 := Nat.xor_lt_two_pow (n := 8) (by omega) hy
  rw [UInt8.toNat_ofNat', Nat.mod_eq_of_lt this]
theorem xor_same (c : UInt8) (y : Nat) (hy : y < 256) : c = UInt8.ofNat (c.toNat ^^^ y) ↔ y = 0 := by
  have hc := c.toNat_lt
  have : c.toNat ^^^ y < 256 := Nat.xor_lt_two_pow (n := 8) (by omega) hy
  constructor
  · intro h
    have h2 : c.toNat ^^^ 0 = c.toNat ^^^ y := by
      have := congrArg UInt8.toNat h
      rw [UInt8.toNat_ofNat', Nat.mod_eq_of_lt (by assumption)] at this
      rw [Nat.xor_zero]; exact this
    exact (xor_cancel h2).symm
  · intro h; subst h; simp

set_option maxHeartbeats 1000000 in
theorem law4 (w : World) (a : Option Addr) (n c : Nat) (bs : List UInt8) (at_ x : Int) (h : NB.RdB w a n c bs) (ha : (Lit.int .u16 at_).wf = true) (hx : (Lit.int .u8 x).wf = true) :
    Calls Try.prog 6 #[.slice a n c, .int .u16 at_, .int .u8 x] w fun e w' => e = .returned (.bool true) ∧ Below w.heap.size w w' := by
  obtain rfl : n = bs.length := (NB.RdB.size h).symm
  have hbd := Rd.bound h
  have ba := bounds_u16 ha
  have bx := bounds_u8 hx
  obtain ⟨m, rfl⟩ := Int.eq_ofNat_of_zero_le ba.1
  obtain ⟨y, rfl⟩ := Int.eq_ofNat_of_zero_le bx.1
  by_cases h0 : bs.length = 0
  · have h0' : ((bs.length : Int) == 0) = true := beq_iff_eq.2 (by omega)
    go_enter Try.func6, Try.ntmps6
    go_wp2_with (first | (go_at_call 8; refine (awake_any _).mono ?_; rintro e w1 ⟨rfl, hb1⟩))
    go_ret
    exact ⟨rfl, hb1⟩
  · have h0' : ((bs.length : Int) == 0) = false := beq_eq_false_iff_ne.2 (by omega)
    by_cases h500 : bs.length ≤ 500
    · go_enter Try.func6, Try.ntmps6
      go_wp2_with (first
        | (go_at_call 8; refine (awake_any _).mono ?_; rintro e w1 ⟨rfl, hb1⟩)
        | (at_builtin; with_reducible refine NB.wpList_append_rd rfl (.tmp 20) (.tmp 21) 23 rfl w1.heap.size slT23 (.slice none 0 0) 0 [] rfl (World.ownsRow_nil _ _ _ _) a bs.length c _ rfl (Rd.below h hb1) (NB.u8v_one _) ?_ ?_ (Nat.le_refl _) ?_))
      case refine_1 => omega
      case refine_2 => unfold maxLen; omega
      intro v' w2 ho hg
      try simp only [Nat.zero_add, List.nil_append] at ho
      have B2 : Below w.heap.size w w2 := hb1.grown hg hb1.size (by rintro k hk; cases hk)
      clear hg
      obtain ⟨g, cap, rfl⟩ := NB.own_pos ho (by omega)
      have hcell := fun j hj => ho.cellAt j hj
      have hfr := fun j => ho.frozenAt j
      obtain ⟨j, hj⟩ : ∃ j, j = m % bs.length := ⟨_, rfl⟩
      have hjl : j < bs.length := by rw [hj]; exact Nat.mod_lt _ (by omega)
      have hji : (m : Int) % (bs.length : Int) = (j : Int) := by rw [hj]; rfl
      have HJ := Go.Lib.hid hj; clear hj
      have hcj : w2.cell? ⟨g, j, none⟩ = some (.int .u8 ((bs.getD j 0).toNat : Int)) := by
        rw [hcell j (by omega)]; simp [NB.u8v, List.getD, hjl]
      have hfj := hfr j
      clear hcell hfr
      have hst := ho.stored j (.int .u8 ((UInt8.ofNat ((bs.getD j 0).toNat ^^^ y)).toNat : Int))
      have hxn := xor_new (bs.getD j 0) y (by omega)
      have hxs := xor_same (bs.getD j 0) y (by omega)
      have hss := sum_set bs j (UInt8.ofNat ((bs.getD j 0).toNat ^^^ y)) hjl
      generalize UInt8.ofNat ((bs.getD j 0).toNat ^^^ y) = d at *
      generalize bs.getD j 0 = q at *
      have hset : (bs.map NB.u8v).set j (.int .u8 (d.toNat : Int)) = (bs.set j d).map NB.u8v := by rw [List.map_set]; rfl
      rw [hset] at hst
      clear hset
      have hgl := ho.lt g rfl
      go_wp2_with fail
      have B3 : Below w.heap.size w (w2.setCell ⟨g, j, none⟩ (.int .u8 (d.toNat : Int))) := B2.setCell (by have := hb1.size; show w.heap.size ≤ g; omega) _
      have hsz : w2.heap.size = (w2.setCell ⟨g, j, none⟩ (.int .u8 (d.toNat : Int))).heap.size := by simp [World.setCell]
      generalize w2.setCell ⟨g, j, none⟩ (.int .u8 (d.toNat : Int)) = w3 at *
      have HSZ := Go.Lib.hid hsz; clear hsz
      have hown := hst.1
      clear hst hgl ho hcj hfj
      have hl : (bs.set j d).length = bs.length := List.length_set
      obtain ⟨a3, c3, e3, hr3, hf3, _⟩ := NB.rd_of_own hown; cases e3
      have L := Go.Lib.hid hl; clear hl
      generalize bs.set j d = cs at *
      refine (of_any _ _ _ _ [bs] (NB.rdBB_one 23 (Rd.below h B3) HSZ.out)).mono ?_
      rintro e w4 ⟨rfl, hb4⟩
      have B4 : Below w3.heap.size w3 w4 := ((Below.refl _ _).alloc (Nat.le_refl _) _).trans (hb4.mono (by simp))
      have hr4 := Rd.below hr3 B4
      have B4' : Below w.heap.size w w4 := B3.trans (B4.mono B3.size)
      clear hb4 B4 hr3 hf3 hown
      go_wp2_with fail
      refine (of_any _ _ _ _ [cs] (NB.rdBB_one 23 hr4 rfl)).mono ?_
      rintro e w5 ⟨rfl, hb5⟩
      have B5 : Below w.heap.size w w5 := B4'.trans ((((Below.refl _ _).alloc (Nat.le_refl _) _).trans (hb5.mono (by simp))).mono B4'.size)
      clear hb5 B4' hr4
      by_cases hy : y = 0
      · have e5 : sumR [bs] = sumR [cs] := hss.2 (hxs.2 hy)
        subst hy
        rw [e5]
        go_wp2
        go_ret
        exact ⟨rfl, B5⟩
      · have e5 : ((sumR [bs] : Int) == (sumR [cs] : Int)) = false := beq_eq_false_iff_ne.2 (fun e => hy (hxs.1 (hss.1 (by exact_mod_cast e))))
        have e6 : ((y : Int) == 0) = false := beq_eq_false_iff_ne.2 (by omega)
        go_wp2
        go_ret
        exact ⟨rfl, B5⟩
    · go_enter Try.func6, Try.ntmps6
      go_wp2_with (first | (go_at_call 8; refine (awake_any _).mono ?_; rintro e w1 ⟨rfl, hb1⟩))
      go_ret
      exact ⟨rfl, hb1⟩

theorem sumsByte.own : ownKnob Try.prog.godebug = none := by kernel_rfl
theorem sumsByte.laidOut : laidOutB Try.prog = true := by kernel_rfl
set_option maxRecDepth 100000 in
theorem sumsByte.lifted (os : Os) (started : os.Started) (H : Type) (enc : TypeId × Value → H) :
    ReturnsInHanded {} Try.checked os 6 .any (Rows.sumsByteSpec.pre6 enc Try.prog Try.f6 Rows.sumsByteRow.domain false) (Rows.sumsByteSpec.post enc Try.prog Try.f6 false true false false) := by
  have own := sumsByte.own
  have laidOut := sumsByte.laidOut
  refine returnsInHanded_of_change (C := Try.checked) own started (by kernel_rfl) Try.func6
    (ChangeSpec.witness6 (enc := enc) (C := Try.checked) false ⟨#[], #[.slice none 0 0, .int .u16 0, .int .u8 0], []⟩ 8 (by kernel_rfl) (by kernel_rfl) (by kernel_rfl) (by kernel_rfl)) ?_
  intro W base args ds gs before hval0 hW hcnd _
  have hval : ∀ (j : Nat) t v, Try.f6.params[j]? = some t → args[j]? = some v → Value.okWide Try.prog W .any base t v := hval0
  have hW' := hW
  obtain ⟨p, q, hA0, hV, rfl, hfz, hnd⟩ := hW
  have hA : DataW.TrodAll enc Try.prog W 0 (fun _ => true) true Try.f6.params.toList args.toList ds p := hA0
  rw [Try.params6] at hA hval
  obtain ⟨v0, vs0, d0, ds0, p0, q0, hargs, rfl, rfl, h0, r0⟩ := trodAll_cons hA
  obtain ⟨v1, vs1, d1, ds1, p1, q1, rfl, rfl, rfl, h1, r1⟩ := trodAll_cons r0
  obtain ⟨v2, vs2, d2, ds2, p2, q2, rfl, rfl, rfl, h2, r2⟩ := trodAll_cons r1
  obtain ⟨rfl, rfl, rfl⟩ := trodAll_nil r2
  obtain rfl : args = #[v0, v1, v2] := by cases args; simp_all
  obtain ⟨rfl, rfl⟩ := trodVars_none hV
  obtain ⟨a0, n0, c0, rfl⟩ := okWide_slice Try.underlying23 (hval 0 23 v0 rfl rfl)
  have k0 := h0
  have lt0 : ∀ x ∈ p0, x.block < W.heap.size := by obtain ⟨m, hm⟩ := k0; exact DataW.trod_lt m _ _ _ hm
  obtain ⟨z0, w0⟩ := NB.open_B Try.underlying23 Try.underlying5 (by kernel_rfl) h0
  obtain ⟨i1, rfl, rfl, rfl, w1⟩ := open_int Try.underlying33 (hval 1 33 v1 rfl rfl) h1
  obtain ⟨i2, rfl, rfl, rfl, w2⟩ := open_int Try.underlying5 (hval 2 5 v2 rfl rfl) h2
  clear hA0 hval0
  refine (law4 W a0 n0 c0 z0 i1 i2 w0 w1 w2).mono fun e W' ⟨he, bel⟩ => ?_
  subst he
  exact ⟨_, rfl, _, _, _, [], _, [], hW', trodAll_mk1 (shut_bool Try.underlying4 _), (trodAll_cons_mk (Below.trod laidOut (by kernel_rfl) (of_decide_eq_true (by kernel_rfl)) k0 bel lt0) (trodAll_cons_mk (shut_int Try.underlying33 w1) (trodAll_cons_mk (shut_int Try.underlying5 w2) trodAll_mk0))), rfl, bel.frame _, fun h => by cases h⟩

theorem sumsByte_holds : Rows.SumsByteSaid :=
  OpenClaim.holds_of_wide 6 Try.f6 rfl rfl rfl rfl rfl rfl rfl ⟨rfl, rfl, rfl, rfl, rfl⟩ rfl rfl rfl rfl rfl (by kernel_rfl) Try.func6 (by kernel_rfl)
    (of_decide_eq_true (by kernel_rfl)) (by unfold Func.isWrapper; first | (rw [if_pos (by decide +kernel)]; kernel_rfl) | (rw [if_neg (by decide +kernel)]; exact ⟨rfl, rfl⟩))
    (fun os started H enc _ => sumsByte.lifted os started H enc)
#print axioms sumsByte_holds
end Go.Proofs.Ytfokmbpcpfkopaa
