/- The walk for the statement SegmentPlays. -/
import Derived.Test.YtmgkaoenjnnlmaaSpx1
import Derived.Test.YtmgkaoenjnnlmaaSpx2
import Derived.Test.YtmgkaoenjnnlmaaOpx
import Derived.Test.YtmgkaoenjnnlmaaSgw
namespace Go.Proofs.Ytmgkaoenjnnlmaa
open Go.RowKit
open Go.NB.Crc
open Go.NB (Rd Dk Kp Stp Off Dis val I64)

theorem dd_h {w0 w : World} {p : Nat} {D : Dk} (h : Dd w0 w p D) : DdH (fun _ => False) w0 w p D := by
  obtain ⟨based, G, h2, h5, h6⟩ := h
  exact ⟨based, G, h2, h5, h6, fun k hk => hk.elim⟩
theorem DdH.addB {H X : Nat → Prop} {w0 v v' : World} {p : Nat} {D : Dk} (h0 : DdH H w0 v p D) (hb : Below v.heap.size v v') (hX : ∀ k, X k → H k ∨ (v.heap.size ≤ k ∧ k < v'.heap.size)) : DdH X w0 v' p D := by
  obtain ⟨based, G, h2, h5, h6, h7⟩ := h0
  refine ⟨based, G, h2.below hb, h5, bel h6 hb h6.size, fun k hk => ?_⟩
  rcases hX k hk with h8 | h8
  · exact ⟨Nat.lt_of_lt_of_le (h7 k h8).1 hb.size, (h7 k h8).2⟩
  · exact ⟨h8.2, fun hf => by have := (h2.foot k hf).2; omega⟩
set_option maxRecDepth 100000 in
set_option maxHeartbeats 16000000 in
theorem law_splays (w : World) (i0 i1 : Int) (a : Option Addr) (n c0 : Nat) (wf0 : (Lit.int .i64 i0).wf = true) (wf1 : (Lit.int .i64 i1).wf = true) (h : NB.ActsS w a n c0) :
    Calls Try.prog 8 #[.int .i64 i0, .int .i64 i1, .slice a n c0] w fun e w' => e = .returned (.bool true) ∧ Below w.heap.size w w' := by
  obtain ⟨hnc, hcm, hacts⟩ := h
  have hbd : n ≤ 9223372036854775807 ∧ c0 ≤ 9223372036854775807 := by unfold maxLen at hcm; omega
  by_cases h1 : i0 < 1
  · go_enter Try.func8, Try.ntmps8
    go_wp2_with (first
      | (go_at_call 9; refine (awake_any _).mono ?_; rintro e w1 ⟨rfl, hb1⟩))
    go_ret
    exact ⟨rfl, hb1⟩
  by_cases h24 : 24 < i0
  · have h1d : decide (i0 < 1) = false := by simpa using h1
    go_enter Try.func8, Try.ntmps8
    go_wp2_with (first
      | (go_at_call 9; refine (awake_any _).mono ?_; rintro e w1 ⟨rfl, hb1⟩))
    go_ret
    exact ⟨rfl, hb1⟩
  obtain ⟨N0, rfl⟩ := Int.eq_ofNat_of_zero_le (show 0 ≤ i0 by omega)
  have hN1 : 1 ≤ N0 := by omega
  have hN24 : N0 ≤ 24 := by omega
  have hfl : (Dk.fresh N0).waits.length = 0 := rfl
  have hfn : (Dk.fresh N0).l.length = N0 := by simp [Dk.fresh]
  obtain ⟨D0, hD0⟩ : ∃ D0, Dk.fresh N0 = D0 := ⟨_, rfl⟩
  have hnew := fun w1 hb => qd_new w w1 hb N0 hN1 (by omega)
  have hrnew := fun w => rnew_any w N0 hN1 (by omega)
  unfold NewDd at hnew
  rw [hD0] at hnew hrnew hfl hfn
  have HFL := Go.Lib.hid hfl
  have HFL2 := Go.Lib.hid hfn
  have HNEW := Go.Lib.hid hnew
  have HRN := Go.Lib.hid hrnew
  clear hfl hfn hnew hrnew hD0
  go_enter Try.func8, Try.ntmps8
  go_wp2_with (first
    | (go_at_call 9; refine (awake_any _).mono ?_; rintro e w1 ⟨rfl, hb1⟩)
    | (go_at_call 10; refine (HNEW.out _ hb1).mono ?_; rintro e w2 ⟨p, rfl, hD2⟩)
    | (go_at_call 22; refine (HRN.out _).mono ?_; rintro e w3 ⟨v3, rfl, hr3, hb3, hl3⟩; have hr30 := hr3; obtain ⟨a1, c1, a2, c2, rfl, _, _⟩ := hr3; unfold rdV))
  have hob := oneB' w3 (.cells #[Value.slice a1 D0.l.length c1, .slice a2 D0.waits.length c2, .int .i64 D0.left, .bool D0.down] 50)
  have hR4 : Rw (w3.alloc (.cells #[Value.slice a1 D0.l.length c1, .slice a2 D0.waits.length c2, .int .i64 D0.left, .bool D0.down] 50)) w3.heap.size [Value.slice a1 D0.l.length c1, .slice a2 D0.waits.length c2, .int .i64 D0.left, .bool D0.down] 50 := rw_new w3 [Value.slice a1 D0.l.length c1, .slice a2 D0.waits.length c2, .int .i64 D0.left, .bool D0.down] _ rfl
  have hr4 : RefD _ (dvV D0 a1 c1 a2 c2) D0 := hr30.below hob
  have hl4 : ∀ k, locR (dvV D0 a1 c1 a2 c2) k → w2.heap.size ≤ k ∧ k < w3.heap.size := fun k hk => by
    have hlow := refD_low hr30 k hk
    rcases hl3 k hk with h1 | h1
    · obtain ⟨_, _, _, _, _, _, _, _, _, e, _⟩ := h1
      exact nomatch e
    · exact ⟨h1, hlow⟩
  have hgs : w3.heap.size < (w3.alloc (.cells #[Value.slice a1 D0.l.length c1, .slice a2 D0.waits.length c2, .int .i64 D0.left, .bool D0.down] 50)).heap.size := hR4.lt
  have hw2 := hD2.low.size
  have hw23 := hb3.size
  have hDD4 := (dd_h hD2).addB (X := fun k => k = w3.heap.size ∨ locR (dvV D0 a1 c1 a2 c2) k) (bel' hb3 hob hb3.size) (fun k hk => .inr (by
    rcases hk with hk | hk
    · omega
    · have := hl4 k hk; omega))
  clear hD2 hr30 hb3 hl3 hob
  generalize hg : w3.heap.size = g at *
  generalize w3.alloc (.cells #[Value.slice a1 D0.l.length c1, .slice a2 D0.waits.length c2, .int .i64 D0.left, .bool D0.down] 50) = w4 at *
  have hgw : w.heap.size ≤ g := by omega
  obtain ⟨_, hln0, hl640, hw640⟩ := hDD4.dfacts
  have hn2 : I64 ((N0 : Int) - 2) := WalkArith.wf_i64 (by omega)
  have hbo := Bd.open (k := 0) HFL2.out (by have := HFL.out; omega) hN24 i1 ((N0 : Int) - 2)
  have hqo := qg_open _ w w4 p D0 i1 ((N0 : Int) - 2) hDD4 (by have := HFL.out; omega) wf1 hn2
  have hro := fun v hb => ropen_any v (dvV D0 a1 c1 a2 c2) D0 i1 ((N0 : Int) - 2) (hr4.below (w' := v) hb) hln0 (by have := HFL.out; omega) hl640 hw640 (bounds_i64 wf1).2
  have HBO := Go.Lib.hid hbo; have HQO := Go.Lib.hid hqo
  unfold OpenR dvV rdV at hro
  have HRO := Go.Lib.hid hro
  clear hbo hqo hro hl640 hw640 hln0 hn2 hg hDD4
  by_cases ho : openE D0 i1 ((N0 : Int) - 2) = 0
  case neg =>
    obtain ⟨x, hx⟩ : ∃ x, openE D0 i1 ((N0 : Int) - 2) = x := ⟨_, rfl⟩
    rw [hx] at ho
    have hxb : (x == (0 : Int)) = false := beq_eq_false_iff_ne.2 ho
    have hxn : (x != (0 : Int)) = true := by simp [ho]
    have HX := Go.Lib.hid hx
    clear hx
    go_wp2_with (first
      | (go_at_call 11; refine HQO.out.mono ?_; intro e w5 hh; obtain ⟨_, rfl, DD5, hb5⟩ := hh.resolve_right (fun h => ho (HX.out.symm.trans h.1)); rw [HX.out]; have R5 := hR4.below hb5; have u0 := R5.cell 0 _ rfl; have u1 := R5.cell 1 _ rfl; have u2 := R5.cell 2 _ rfl; have u3 := R5.cell 3 _ rfl)
      | (go_at_call 23; refine (HRO.out _ hb5).mono ?_; rintro e w6 ⟨s6, rfl, hs6, hb6, _⟩; rw [HX.out]; obtain ⟨aM, cM, rfl, _⟩ := hs6; unfold sgL))
    have B7 : Below w.heap.size w (w6.alloc (.cells #[Value.int .i64 (sg0.frm : Int), .int .i64 (sg0.n : Int), .int .u64 (sg0.epoch : Int), .slice aM sg0.l.length cM, .int .i64 (sg0.used : Int), .int .i64 (sg0.sure : Int), .int .i64 (sg0.gone : Int), .int .i64 sg0.e] 55)) := bel' (bel' DD5.low hb6 DD5.low.size) (oneB' w6 _) (Nat.le_trans DD5.low.size hb6.size)
    generalize w6.alloc (.cells #[Value.int .i64 (sg0.frm : Int), .int .i64 (sg0.n : Int), .int .u64 (sg0.epoch : Int), .slice aM sg0.l.length cM, .int .i64 (sg0.used : Int), .int .i64 (sg0.sure : Int), .int .i64 (sg0.gone : Int), .int .i64 sg0.e] 55) = w7 at *
    go_loopw [12, 16] (fun x y wr => x = .pointer none ∧ y = .int .i64 0 ∧ wr = w7) (fun _ _ _ => 0)
    case atStart => exact ⟨rfl, rfl, rfl⟩
    case round =>
      obtain ⟨rfl, rfl, rfl⟩ := hrel
      by_cases h0 : 0 < n
      · have h0i : (0 : Int) < (n : Int) := by omega
        go_wp2_with fail
        go_ret
        exact ⟨rfl, B7⟩
      · have h0i : ¬ (0 : Int) < (n : Int) := by omega
        go_wp2_with fail
        go_ret
        exact ⟨rfl, B7⟩
  have HO := Go.Lib.hid ho
  have hbo := HBO.out
  have hro := HRO.out
  rw [ho, if_pos rfl] at hbo
  simp only [ho, eq_self_iff_true, if_true] at hro
  obtain ⟨S0, hS0⟩ : ∃ S0, openS D0 i1 ((N0 : Int) - 2) = S0 := ⟨_, rfl⟩
  rw [hS0] at hbo
  simp only [hS0] at hro
  have HRO := Go.Lib.hid hro
  have HBO := Go.Lib.hid hbo
  clear ho hbo hro
  go_wp2_with (first
    | (go_at_call 11; refine HQO.out.mono ?_; intro e w5 hh; obtain ⟨_, q, rfl, SS5, hb5⟩ := hh.resolve_left (fun h => h.1 HO.out); rw [hS0] at SS5; have R5 := hR4.below hb5; have u0 := R5.cell 0 _ rfl; have u1 := R5.cell 1 _ rfl; have u2 := R5.cell 2 _ rfl; have u3 := R5.cell 3 _ rfl)
    | (go_at_call 23; refine (HRO.out _ hb5).mono ?_; rintro e w6 ⟨s6, rfl, hs6, hb6, hls6⟩; have hs60 := hs6; obtain ⟨aL, cL, rfl, _⟩ := hs6; unfold sgL))
  have hob := oneB' w6 (.cells #[Value.int .i64 (S0.frm : Int), .int .i64 (S0.n : Int), .int .u64 (S0.epoch : Int), .slice aL S0.l.length cL, .int .i64 (S0.used : Int), .int .i64 (S0.sure : Int), .int .i64 (S0.gone : Int), .int .i64 S0.e] 55)
  have hRS : Rw (w6.alloc (.cells #[Value.int .i64 (S0.frm : Int), .int .i64 (S0.n : Int), .int .u64 (S0.epoch : Int), .slice aL S0.l.length cL, .int .i64 (S0.used : Int), .int .i64 (S0.sure : Int), .int .i64 (S0.gone : Int), .int .i64 S0.e] 55)) w6.heap.size (sgL S0 aL cL) 55 := rw_new w6 (sgL S0 aL cL) _ rfl
  have hb57 := bel' hb6 hob hb6.size
  have hb47 := bel' hb5 hb57 hb5.size
  have hs5 := hb5.size; have hs6' := hb6.size
  have hP : Ps w (w6.alloc (.cells #[Value.int .i64 (S0.frm : Int), .int .i64 (S0.n : Int), .int .u64 (S0.epoch : Int), .slice aL S0.l.length cL, .int .i64 (S0.used : Int), .int .i64 (S0.sure : Int), .int .i64 (S0.gone : Int), .int .i64 S0.e] 55)) g w6.heap.size D0 S0 a1 c1 a2 c2 aL cL :=
    { rg := (show Rw w4 g (dvL D0 a1 c1 a2 c2) 50 from hR4).below hb47
      rh := hRS
      rd := hr4.below hb47
      rs := hs60.below hob
      gh := by omega
      low := ⟨hgw, by omega⟩
      off := fun k hk => by
        have hlt := hRS.lt
        rcases hk with hk | hk
        · have := hl4 k hk; omega
        · have := hls6 k hk; have := refS_low hs60 k hk; omega }
  have hS : SdH (Hb g w6.heap.size (dvV D0 a1 c1 a2 c2) (svV S0 aL cL) (fun _ => False)) w (w6.alloc (.cells #[Value.int .i64 (S0.frm : Int), .int .i64 (S0.n : Int), .int .u64 (S0.epoch : Int), .slice aL S0.l.length cL, .int .i64 (S0.used : Int), .int .i64 (S0.sure : Int), .int .i64 (S0.gone : Int), .int .i64 S0.e] 55)) q p D0 S0 := SS5.addB hb57 (fun k hk => by
    have hlt := hRS.lt
    rcases hk with hk | hk | hk | hk | hk
    · exact .inl (.inl hk)
    · exact .inr (by omega)
    · exact hk.elim
    · exact .inl (.inr hk)
    · have := hls6 k hk; have := refS_low hs60 k hk; exact .inr (by omega))
  clear hob hRS hb57 hb47 hs5 hs6' hs60 SS5 hb5 hb6 hls6 hR4 hr4 hl4 hgs hw2 hw23 u0 u1 u2 u3 R5
  generalize hh : w6.heap.size = h at *
  generalize w6.alloc (.cells #[Value.int .i64 (S0.frm : Int), .int .i64 (S0.n : Int), .int .u64 (S0.epoch : Int), .slice aL S0.l.length cL, .int .i64 (S0.used : Int), .int .i64 (S0.sure : Int), .int .i64 (S0.gone : Int), .int .i64 S0.e] 55) = w7 at *
  clear hh
  go_loopw [12, 16] (fun x y wr => (∃ k : Nat, y = .int .i64 (k : Int) ∧ x = .pointer none ∧ Below w.heap.size w wr) ∨ ∃ (k q : Nat) (D : Dk) (S : Sg) (a1 : Option Addr) (c1 : Nat) (a2 : Option Addr) (c2 : Nat) (aL : Option Addr) (cL : Nat), k ≤ n ∧ x = .pointer (some ⟨q, 0, none⟩) ∧ y = .int .i64 (k : Int) ∧ Ps w wr g h D S a1 c1 a2 c2 aL cL ∧ SdH (Hb g h (dvV D a1 c1 a2 c2) (svV S aL cL) (fun _ => False)) w wr q p D S ∧ Bd N0 k D S) (fun _ y _ => n - (intOf y).toNat)
  case atStart => exact .inr ⟨0, q, D0, S0, a1, c1, a2, c2, aL, cL, by omega, rfl, rfl, hP, hS, HBO.out⟩
  case round =>
    clear hP hS
    rcases hrel with ⟨k, rfl, rfl, B7⟩ | ⟨k, q, D, S, a1, c1, a2, c2, aL, cL, hk, rfl, rfl, P, SS, HB⟩
    · by_cases hlt : k < n
      case neg =>
        have hki : ¬ (k : Int) < (n : Int) := by omega
        go_wp2_with fail
        go_ret
        exact ⟨rfl, B7⟩
      have hki : (k : Int) < (n : Int) := by omega
      by_cases hk30 : k < 30
      · have hk30i : (k : Int) < 30 := by omega
        go_wp2_with fail
        go_ret
        exact ⟨rfl, B7⟩
      · have hk30i : ¬ (k : Int) < 30 := by omega
        go_wp2_with fail
        go_ret
        exact ⟨rfl, B7⟩
    have hB := SS.low
    by_cases hlt : k < n
    case neg =>
      have hki : ¬ (k : Int) < (n : Int) := by omega
      go_wp2_with fail
      go_ret
      exact ⟨rfl, hB⟩
    have hki : (k : Int) < (n : Int) := by omega
    by_cases hk30 : k < 30
    case neg =>
      have hk30i : ¬ (k : Int) < 30 := by omega
      go_wp2_with fail
      go_ret
      exact ⟨rfl, hB⟩
    have hk30i : (k : Int) < 30 := by omega
    obtain ⟨b, o, K, N, long, a', n', c'', bs, rfl, q0w, q1w, q2w, q3w, wK, wN, hbs0⟩ := hacts k hlt
    obtain rfl : n' = bs.length := by have := NB.RdB.size hbs0; omega
    have hbb := Rd.bound hbs0
    have q0 := (Below.cell hB (World.block_lt_of_cell? _ _ q0w)).trans q0w
    have q1 := (Below.cell hB (World.block_lt_of_cell? _ _ q1w)).trans q1w
    have q2 := (Below.cell hB (World.block_lt_of_cell? _ _ q2w)).trans q2w
    have q3 := (Below.cell hB (World.block_lt_of_cell? _ _ q3w)).trans q3w
    clear q0w q1w q2w q3w
    by_cases h60 : 60 < bs.length
    · have h60i : (60 : Int) < (bs.length : Int) := by omega
      go_wp2_with fail
      go_ret
      exact ⟨rfl, hB.alloc hB.size _⟩
    have h60i : ¬ (60 : Int) < (bs.length : Int) := by omega
    obtain ⟨kv, hkv⟩ : ∃ kv, bits .and .i64 K 15 = kv := ⟨_, rfl⟩
    clear hacts
    by_cases hA0 : kv = 0
    · subst hA0
      refine spl_A0 w wr p g h N0 n c0 b o i1 hN1 hN24 wf1 hbd hnc k q D S a1 c1 a2 c2 aL cL hlt hk30 P SS HB K N long a' c'' bs wN q0 q1 q2 q3 hbs0 h60 hkv _ _ _ _ _ _ _ _ _ _ _ _ _ _ _ _ _ _ _ _ _ _ _ _ _ _ _ _ _ _ _ _ _ _ _ _ _ _ _ _ _ _ _ _ _ _ _ _ _ _ _ _ _ _ _ _ _ _ _ _ _ _ _ _ _ _ _ _ _ _ _ _ _ _ _ _ _ _ _ _ _ _ _ _ _ _ _ _ _ _ _ _ _ _ _ _ _ _ _ _ _ _ _ _ _ _ _ _ _ _ _ _ _ _ _ _ _ _ _ _ _ _ _ _ _ _ _ _ _ _ _ _ _ _ _ _ _ _ _ _ _ _ _ _ _ _ _ _ _ _ _ _ _ _ _ _ _ _ _ _ _ _ _ _ _ _ _ _ _ _ _ _ _ _ _ _ _ _ _ _ _ _ _ _ _ _ _ _ _ _ _ _ _ _ _ _ _ _ _ _ _ _ _ _ _ _ _ _ _ _ _ _ _ _ _ _ _ _ _ _ _ _ _ _ _ _ _ _ _ _ _ _ _ _ _ _ _ _ _ _ _ _ _ _ _ _ _ _ _ _ ?_
      refine Go.Lib.hid ?_
      intro z6 z13 z15 z17 z18 z19 z20 z21 z67 z68 z69 z70 z71 z72 z73 z74 z75 z76 z77 z78 z79 z80 z81 z82 z83 z84 z85 z86 z87 z88 z89 z90 z91 z92 z93 z94 z95 z96 z97 z98 z99 z100 z101 z102 z103 z104 z105 z106 z107 z108 z109 z110 z111 z112 z113 z114 z115 z116 z117 z118 z119 z120 z121 z122 z123 z124 z125 z126 z127 z128 z129 z130 z131 z132 z133 z134 z135 z136 z137 z138 z139 z140 z141 z142 z143 z144 z145 z146 z147 z148 z149 z150 z151 z152 z153 z154 z155 z156 z157 z158 z159 z160 z161 z162 z163 z164 z165 z166 z167 z168 z169 z170 z171 z172 z173 z174 z175 z176 z177 z178 z179 z180 z181 z182 z183 z184 z185 z186 z187 z188 z189 z190 z191 z192 z193 z194 z195 z196 z197 z198 z199 z200 z201 z202 z203 z204 z205 z206 z207 z208 z209 z210 z211 z212 z213 z214 z215 z216 z217 z218 z219 z220 z221 z222 z223 z224 z225 z226 z227 z228 z229 z230 z231 z232 z233 z234 z235 z236 z237 z238 z239 z240 z241 z242 z243 z244 z245 z246 z247 z248 z249 z250 z251 z252 z253 z254 z255 q' D' S' b1 d1 b2 d2 bL dL v' hP' hS' hB'
      exact ⟨⟨_, _, _, _, _, _, _, _, _, _, _, _, _, _, _, _, _, _, _, _, _, _, _, _, _, _, _, _, _, _, _, _, _, _, _, _, _, _, _, _, _, _, _, _, _, _, _, _, _, _, _, _, _, _, _, _, _, _, _, _, _, _, _, _, _, _, _, _, _, _, _, _, _, _, _, _, _, _, _, _, _, _, _, _, _, _, _, _, _, _, _, _, _, _, _, _, _, _, _, _, _, _, _, _, _, _, _, _, _, _, _, _, _, _, _, _, _, _, _, _, _, _, _, _, _, _, _, _, _, _, _, _, _, _, _, _, _, _, _, _, _, _, _, _, _, _, _, _, _, _, _, _, _, _, _, _, _, _, _, _, _, _, _, _, _, _, _, _, _, _, _, _, _, _, _, _, _, _, _, _, _, _, _, _, _, _, _, _, _, _, _, _, _, _, _, _, _, _, _, .inr ⟨k + 1, q', D', S', b1, d1, b2, d2, bL, dL, by omega, rfl, by simp, hP', hS', hB'⟩, rfl⟩, by simp [intOf]; omega⟩
    by_cases hA1 : kv = 1
    · subst hA1
      refine spl_A1 w wr p g h N0 n c0 b o i1 hN1 hN24 wf1 hbd hnc k q D S a1 c1 a2 c2 aL cL hlt hk30 P SS HB K N long a' c'' bs wN q0 q1 q2 q3 hbs0 h60 hkv _ _ _ _ _ _ _ _ _ _ _ _ _ _ _ _ _ _ _ _ _ _ _ _ _ _ _ _ _ _ _ _ _ _ _ _ _ _ _ _ _ _ _ _ _ _ _ _ _ _ _ _ _ _ _ _ _ _ _ _ _ _ _ _ _ _ _ _ _ _ _ _ _ _ _ _ _ _ _ _ _ _ _ _ _ _ _ _ _ _ _ _ _ _ _ _ _ _ _ _ _ _ _ _ _ _ _ _ _ _ _ _ _ _ _ _ _ _ _ _ _ _ _ _ _ _ _ _ _ _ _ _ _ _ _ _ _ _ _ _ _ _ _ _ _ _ _ _ _ _ _ _ _ _ _ _ _ _ _ _ _ _ _ _ _ _ _ _ _ _ _ _ _ _ _ _ _ _ _ _ _ _ _ _ _ _ _ _ _ _ _ _ _ _ _ _ _ _ _ _ _ _ _ _ _ _ _ _ _ _ _ _ _ _ _ _ _ _ _ _ _ _ _ _ _ _ _ _ _ _ _ _ _ _ _ _ _ _ _ _ _ _ _ _ _ _ _ _ _ _ ?_
      refine Go.Lib.hid ?_
      intro z6 z13 z15 z17 z18 z19 z20 z21 z67 z68 z69 z70 z71 z72 z73 z74 z75 z76 z77 z78 z79 z80 z81 z82 z83 z84 z85 z86 z87 z88 z89 z90 z91 z92 z93 z94 z95 z96 z97 z98 z99 z100 z101 z102 z103 z104 z105 z106 z107 z108 z109 z110 z111 z112 z113 z114 z115 z116 z117 z118 z119 z120 z121 z122 z123 z124 z125 z126 z127 z128 z129 z130 z131 z132 z133 z134 z135 z136 z137 z138 z139 z140 z141 z142 z143 z144 z145 z146 z147 z148 z149 z150 z151 z152 z153 z154 z155 z156 z157 z158 z159 z160 z161 z162 z163 z164 z165 z166 z167 z168 z169 z170 z171 z172 z173 z174 z175 z176 z177 z178 z179 z180 z181 z182 z183 z184 z185 z186 z187 z188 z189 z190 z191 z192 z193 z194 z195 z196 z197 z198 z199 z200 z201 z202 z203 z204 z205 z206 z207 z208 z209 z210 z211 z212 z213 z214 z215 z216 z217 z218 z219 z220 z221 z222 z223 z224 z225 z226 z227 z228 z229 z230 z231 z232 z233 z234 z235 z236 z237 z238 z239 z240 z241 z242 z243 z244 z245 z246 z247 z248 z249 z250 z251 z252 z253 z254 z255 q' D' S' b1 d1 b2 d2 bL dL v' hP' hS' hB'
      exact ⟨⟨_, _, _, _, _, _, _, _, _, _, _, _, _, _, _, _, _, _, _, _, _, _, _, _, _, _, _, _, _, _, _, _, _, _, _, _, _, _, _, _, _, _, _, _, _, _, _, _, _, _, _, _, _, _, _, _, _, _, _, _, _, _, _, _, _, _, _, _, _, _, _, _, _, _, _, _, _, _, _, _, _, _, _, _, _, _, _, _, _, _, _, _, _, _, _, _, _, _, _, _, _, _, _, _, _, _, _, _, _, _, _, _, _, _, _, _, _, _, _, _, _, _, _, _, _, _, _, _, _, _, _, _, _, _, _, _, _, _, _, _, _, _, _, _, _, _, _, _, _, _, _, _, _, _, _, _, _, _, _, _, _, _, _, _, _, _, _, _, _, _, _, _, _, _, _, _, _, _, _, _, _, _, _, _, _, _, _, _, _, _, _, _, _, _, _, _, _, _, _, .inr ⟨k + 1, q', D', S', b1, d1, b2, d2, bL, dL, by omega, rfl, by simp, hP', hS', hB'⟩, rfl⟩, by simp [intOf]; omega⟩
    by_cases hA2 : kv = 2
    · subst hA2
      refine spl_A2 w wr p g h N0 n c0 b o i1 hN1 hN24 wf1 hbd hnc k q D S a1 c1 a2 c2 aL cL hlt hk30 P SS HB K N long a' c'' bs wN q0 q1 q2 q3 hbs0 h60 hkv _ _ _ _ _ _ _ _ _ _ _ _ _ _ _ _ _ _ _ _ _ _ _ _ _ _ _ _ _ _ _ _ _ _ _ _ _ _ _ _ _ _ _ _ _ _ _ _ _ _ _ _ _ _ _ _ _ _ _ _ _ _ _ _ _ _ _ _ _ _ _ _ _ _ _ _ _ _ _ _ _ _ _ _ _ _ _ _ _ _ _ _ _ _ _ _ _ _ _ _ _ _ _ _ _ _ _ _ _ _ _ _ _ _ _ _ _ _ _ _ _ _ _ _ _ _ _ _ _ _ _ _ _ _ _ _ _ _ _ _ _ _ _ _ _ _ _ _ _ _ _ _ _ _ _ _ _ _ _ _ _ _ _ _ _ _ _ _ _ _ _ _ _ _ _ _ _ _ _ _ _ _ _ _ _ _ _ _ _ _ _ _ _ _ _ _ _ _ _ _ _ _ _ _ _ _ _ _ _ _ _ _ _ _ _ _ _ _ _ _ _ _ _ _ _ _ _ _ _ _ _ _ _ _ _ _ _ _ _ _ _ _ _ _ _ _ _ _ _ _ ?_
      refine Go.Lib.hid ?_
      intro z6 z13 z15 z17 z18 z19 z20 z21 z67 z68 z69 z70 z71 z72 z73 z74 z75 z76 z77 z78 z79 z80 z81 z82 z83 z84 z85 z86 z87 z88 z89 z90 z91 z92 z93 z94 z95 z96 z97 z98 z99 z100 z101 z102 z103 z104 z105 z106 z107 z108 z109 z110 z111 z112 z113 z114 z115 z116 z117 z118 z119 z120 z121 z122 z123 z124 z125 z126 z127 z128 z129 z130 z131 z132 z133 z134 z135 z136 z137 z138 z139 z140 z141 z142 z143 z144 z145 z146 z147 z148 z149 z150 z151 z152 z153 z154 z155 z156 z157 z158 z159 z160 z161 z162 z163 z164 z165 z166 z167 z168 z169 z170 z171 z172 z173 z174 z175 z176 z177 z178 z179 z180 z181 z182 z183 z184 z185 z186 z187 z188 z189 z190 z191 z192 z193 z194 z195 z196 z197 z198 z199 z200 z201 z202 z203 z204 z205 z206 z207 z208 z209 z210 z211 z212 z213 z214 z215 z216 z217 z218 z219 z220 z221 z222 z223 z224 z225 z226 z227 z228 z229 z230 z231 z232 z233 z234 z235 z236 z237 z238 z239 z240 z241 z242 z243 z244 z245 z246 z247 z248 z249 z250 z251 z252 z253 z254 z255 q' D' S' b1 d1 b2 d2 bL dL v' hP' hS' hB'
      exact ⟨⟨_, _, _, _, _, _, _, _, _, _, _, _, _, _, _, _, _, _, _, _, _, _, _, _, _, _, _, _, _, _, _, _, _, _, _, _, _, _, _, _, _, _, _, _, _, _, _, _, _, _, _, _, _, _, _, _, _, _, _, _, _, _, _, _, _, _, _, _, _, _, _, _, _, _, _, _, _, _, _, _, _, _, _, _, _, _, _, _, _, _, _, _, _, _, _, _, _, _, _, _, _, _, _, _, _, _, _, _, _, _, _, _, _, _, _, _, _, _, _, _, _, _, _, _, _, _, _, _, _, _, _, _, _, _, _, _, _, _, _, _, _, _, _, _, _, _, _, _, _, _, _, _, _, _, _, _, _, _, _, _, _, _, _, _, _, _, _, _, _, _, _, _, _, _, _, _, _, _, _, _, _, _, _, _, _, _, _, _, _, _, _, _, _, _, _, _, _, _, _, .inr ⟨k + 1, q', D', S', b1, d1, b2, d2, bL, dL, by omega, rfl, by simp, hP', hS', hB'⟩, rfl⟩, by simp [intOf]; omega⟩
    by_cases hA3 : kv = 3
    · subst hA3
      refine spl_A3 w wr p g h N0 n c0 b o i1 hN1 hN24 wf1 hbd hnc k q D S a1 c1 a2 c2 aL cL hlt hk30 P SS HB K N long a' c'' bs wN q0 q1 q2 q3 hbs0 h60 hkv _ _ _ _ _ _ _ _ _ _ _ _ _ _ _ _ _ _ _ _ _ _ _ _ _ _ _ _ _ _ _ _ _ _ _ _ _ _ _ _ _ _ _ _ _ _ _ _ _ _ _ _ _ _ _ _ _ _ _ _ _ _ _ _ _ _ _ _ _ _ _ _ _ _ _ _ _ _ _ _ _ _ _ _ _ _ _ _ _ _ _ _ _ _ _ _ _ _ _ _ _ _ _ _ _ _ _ _ _ _ _ _ _ _ _ _ _ _ _ _ _ _ _ _ _ _ _ _ _ _ _ _ _ _ _ _ _ _ _ _ _ _ _ _ _ _ _ _ _ _ _ _ _ _ _ _ _ _ _ _ _ _ _ _ _ _ _ _ _ _ _ _ _ _ _ _ _ _ _ _ _ _ _ _ _ _ _ _ _ _ _ _ _ _ _ _ _ _ _ _ _ _ _ _ _ _ _ _ _ _ _ _ _ _ _ _ _ _ _ _ _ _ _ _ _ _ _ _ _ _ _ _ _ _ _ _ _ _ _ _ _ _ _ _ _ _ _ _ _ _ ?_
      refine Go.Lib.hid ?_
      intro z6 z13 z15 z17 z18 z19 z20 z21 z67 z68 z69 z70 z71 z72 z73 z74 z75 z76 z77 z78 z79 z80 z81 z82 z83 z84 z85 z86 z87 z88 z89 z90 z91 z92 z93 z94 z95 z96 z97 z98 z99 z100 z101 z102 z103 z104 z105 z106 z107 z108 z109 z110 z111 z112 z113 z114 z115 z116 z117 z118 z119 z120 z121 z122 z123 z124 z125 z126 z127 z128 z129 z130 z131 z132 z133 z134 z135 z136 z137 z138 z139 z140 z141 z142 z143 z144 z145 z146 z147 z148 z149 z150 z151 z152 z153 z154 z155 z156 z157 z158 z159 z160 z161 z162 z163 z164 z165 z166 z167 z168 z169 z170 z171 z172 z173 z174 z175 z176 z177 z178 z179 z180 z181 z182 z183 z184 z185 z186 z187 z188 z189 z190 z191 z192 z193 z194 z195 z196 z197 z198 z199 z200 z201 z202 z203 z204 z205 z206 z207 z208 z209 z210 z211 z212 z213 z214 z215 z216 z217 z218 z219 z220 z221 z222 z223 z224 z225 z226 z227 z228 z229 z230 z231 z232 z233 z234 z235 z236 z237 z238 z239 z240 z241 z242 z243 z244 z245 z246 z247 z248 z249 z250 z251 z252 z253 z254 z255 q' D' S' b1 d1 b2 d2 bL dL v' hP' hS' hB'
      exact ⟨⟨_, _, _, _, _, _, _, _, _, _, _, _, _, _, _, _, _, _, _, _, _, _, _, _, _, _, _, _, _, _, _, _, _, _, _, _, _, _, _, _, _, _, _, _, _, _, _, _, _, _, _, _, _, _, _, _, _, _, _, _, _, _, _, _, _, _, _, _, _, _, _, _, _, _, _, _, _, _, _, _, _, _, _, _, _, _, _, _, _, _, _, _, _, _, _, _, _, _, _, _, _, _, _, _, _, _, _, _, _, _, _, _, _, _, _, _, _, _, _, _, _, _, _, _, _, _, _, _, _, _, _, _, _, _, _, _, _, _, _, _, _, _, _, _, _, _, _, _, _, _, _, _, _, _, _, _, _, _, _, _, _, _, _, _, _, _, _, _, _, _, _, _, _, _, _, _, _, _, _, _, _, _, _, _, _, _, _, _, _, _, _, _, _, _, _, _, _, _, _, .inr ⟨k + 1, q', D', S', b1, d1, b2, d2, bL, dL, by omega, rfl, by simp, hP', hS', hB'⟩, rfl⟩, by simp [intOf]; omega⟩
    by_cases hA4 : kv = 4
    · subst hA4
      refine spl_A4 w wr p g h N0 n c0 b o i1 hN1 hN24 wf1 hbd hnc k q D S a1 c1 a2 c2 aL cL hlt hk30 P SS HB K N long a' c'' bs wN q0 q1 q2 q3 hbs0 h60 hkv _ _ _ _ _ _ _ _ _ _ _ _ _ _ _ _ _ _ _ _ _ _ _ _ _ _ _ _ _ _ _ _ _ _ _ _ _ _ _ _ _ _ _ _ _ _ _ _ _ _ _ _ _ _ _ _ _ _ _ _ _ _ _ _ _ _ _ _ _ _ _ _ _ _ _ _ _ _ _ _ _ _ _ _ _ _ _ _ _ _ _ _ _ _ _ _ _ _ _ _ _ _ _ _ _ _ _ _ _ _ _ _ _ _ _ _ _ _ _ _ _ _ _ _ _ _ _ _ _ _ _ _ _ _ _ _ _ _ _ _ _ _ _ _ _ _ _ _ _ _ _ _ _ _ _ _ _ _ _ _ _ _ _ _ _ _ _ _ _ _ _ _ _ _ _ _ _ _ _ _ _ _ _ _ _ _ _ _ _ _ _ _ _ _ _ _ _ _ _ _ _ _ _ _ _ _ _ _ _ _ _ _ _ _ _ _ _ _ _ _ _ _ _ _ _ _ _ _ _ _ _ _ _ _ _ _ _ _ _ _ _ _ _ _ _ _ _ _ _ _ ?_
      refine Go.Lib.hid ?_
      intro z6 z13 z15 z17 z18 z19 z20 z21 z67 z68 z69 z70 z71 z72 z73 z74 z75 z76 z77 z78 z79 z80 z81 z82 z83 z84 z85 z86 z87 z88 z89 z90 z91 z92 z93 z94 z95 z96 z97 z98 z99 z100 z101 z102 z103 z104 z105 z106 z107 z108 z109 z110 z111 z112 z113 z114 z115 z116 z117 z118 z119 z120 z121 z122 z123 z124 z125 z126 z127 z128 z129 z130 z131 z132 z133 z134 z135 z136 z137 z138 z139 z140 z141 z142 z143 z144 z145 z146 z147 z148 z149 z150 z151 z152 z153 z154 z155 z156 z157 z158 z159 z160 z161 z162 z163 z164 z165 z166 z167 z168 z169 z170 z171 z172 z173 z174 z175 z176 z177 z178 z179 z180 z181 z182 z183 z184 z185 z186 z187 z188 z189 z190 z191 z192 z193 z194 z195 z196 z197 z198 z199 z200 z201 z202 z203 z204 z205 z206 z207 z208 z209 z210 z211 z212 z213 z214 z215 z216 z217 z218 z219 z220 z221 z222 z223 z224 z225 z226 z227 z228 z229 z230 z231 z232 z233 z234 z235 z236 z237 z238 z239 z240 z241 z242 z243 z244 z245 z246 z247 z248 z249 z250 z251 z252 z253 z254 z255 q' D' S' b1 d1 b2 d2 bL dL v' hP' hS' hB'
      exact ⟨⟨_, _, _, _, _, _, _, _, _, _, _, _, _, _, _, _, _, _, _, _, _, _, _, _, _, _, _, _, _, _, _, _, _, _, _, _, _, _, _, _, _, _, _, _, _, _, _, _, _, _, _, _, _, _, _, _, _, _, _, _, _, _, _, _, _, _, _, _, _, _, _, _, _, _, _, _, _, _, _, _, _, _, _, _, _, _, _, _, _, _, _, _, _, _, _, _, _, _, _, _, _, _, _, _, _, _, _, _, _, _, _, _, _, _, _, _, _, _, _, _, _, _, _, _, _, _, _, _, _, _, _, _, _, _, _, _, _, _, _, _, _, _, _, _, _, _, _, _, _, _, _, _, _, _, _, _, _, _, _, _, _, _, _, _, _, _, _, _, _, _, _, _, _, _, _, _, _, _, _, _, _, _, _, _, _, _, _, _, _, _, _, _, _, _, _, _, _, _, _, .inr ⟨k + 1, q', D', S', b1, d1, b2, d2, bL, dL, by omega, rfl, by simp, hP', hS', hB'⟩, rfl⟩, by simp [intOf]; omega⟩
    by_cases hA5 : kv = 5
    · subst hA5
      refine spl_B5 w wr p g h N0 n c0 b o i1 hN1 hN24 wf1 hbd hnc k q D S a1 c1 a2 c2 aL cL hlt hk30 P SS HB K N long a' c'' bs wN q0 q1 q2 q3 hbs0 h60 hkv _ _ _ _ _ _ _ _ _ _ _ _ _ _ _ _ _ _ _ _ _ _ _ _ _ _ _ _ _ _ _ _ _ _ _ _ _ _ _ _ _ _ _ _ _ _ _ _ _ _ _ _ _ _ _ _ _ _ _ _ _ _ _ _ _ _ _ _ _ _ _ _ _ _ _ _ _ _ _ _ _ _ _ _ _ _ _ _ _ _ _ _ _ _ _ _ _ _ _ _ _ _ _ _ _ _ _ _ _ _ _ _ _ _ _ _ _ _ _ _ _ _ _ _ _ _ _ _ _ _ _ _ _ _ _ _ _ _ _ _ _ _ _ _ _ _ _ _ _ _ _ _ _ _ _ _ _ _ _ _ _ _ _ _ _ _ _ _ _ _ _ _ _ _ _ _ _ _ _ _ _ _ _ _ _ _ _ _ _ _ _ _ _ _ _ _ _ _ _ _ _ _ _ _ _ _ _ _ _ _ _ _ _ _ _ _ _ _ _ _ _ _ _ _ _ _ _ _ _ _ _ _ _ _ _ _ _ _ _ _ _ _ _ _ _ _ _ _ _ _ ?_
      refine Go.Lib.hid ?_
      intro z6 z13 z15 z17 z18 z19 z20 z21 z67 z68 z69 z70 z71 z72 z73 z74 z75 z76 z77 z78 z79 z80 z81 z82 z83 z84 z85 z86 z87 z88 z89 z90 z91 z92 z93 z94 z95 z96 z97 z98 z99 z100 z101 z102 z103 z104 z105 z106 z107 z108 z109 z110 z111 z112 z113 z114 z115 z116 z117 z118 z119 z120 z121 z122 z123 z124 z125 z126 z127 z128 z129 z130 z131 z132 z133 z134 z135 z136 z137 z138 z139 z140 z141 z142 z143 z144 z145 z146 z147 z148 z149 z150 z151 z152 z153 z154 z155 z156 z157 z158 z159 z160 z161 z162 z163 z164 z165 z166 z167 z168 z169 z170 z171 z172 z173 z174 z175 z176 z177 z178 z179 z180 z181 z182 z183 z184 z185 z186 z187 z188 z189 z190 z191 z192 z193 z194 z195 z196 z197 z198 z199 z200 z201 z202 z203 z204 z205 z206 z207 z208 z209 z210 z211 z212 z213 z214 z215 z216 z217 z218 z219 z220 z221 z222 z223 z224 z225 z226 z227 z228 z229 z230 z231 z232 z233 z234 z235 z236 z237 z238 z239 z240 z241 z242 z243 z244 z245 z246 z247 z248 z249 z250 z251 z252 z253 z254 z255 q' D' S' b1 d1 b2 d2 bL dL v' hP' hS' hB'
      exact ⟨⟨_, _, _, _, _, _, _, _, _, _, _, _, _, _, _, _, _, _, _, _, _, _, _, _, _, _, _, _, _, _, _, _, _, _, _, _, _, _, _, _, _, _, _, _, _, _, _, _, _, _, _, _, _, _, _, _, _, _, _, _, _, _, _, _, _, _, _, _, _, _, _, _, _, _, _, _, _, _, _, _, _, _, _, _, _, _, _, _, _, _, _, _, _, _, _, _, _, _, _, _, _, _, _, _, _, _, _, _, _, _, _, _, _, _, _, _, _, _, _, _, _, _, _, _, _, _, _, _, _, _, _, _, _, _, _, _, _, _, _, _, _, _, _, _, _, _, _, _, _, _, _, _, _, _, _, _, _, _, _, _, _, _, _, _, _, _, _, _, _, _, _, _, _, _, _, _, _, _, _, _, _, _, _, _, _, _, _, _, _, _, _, _, _, _, _, _, _, _, _, .inr ⟨k + 1, q', D', S', b1, d1, b2, d2, bL, dL, by omega, rfl, by simp, hP', hS', hB'⟩, rfl⟩, by simp [intOf]; omega⟩
    by_cases hA6 : kv = 6
    · subst hA6
      refine spl_B6 w wr p g h N0 n c0 b o i1 hN1 hN24 wf1 hbd hnc k q D S a1 c1 a2 c2 aL cL hlt hk30 P SS HB K N long a' c'' bs wN q0 q1 q2 q3 hbs0 h60 hkv _ _ _ _ _ _ _ _ _ _ _ _ _ _ _ _ _ _ _ _ _ _ _ _ _ _ _ _ _ _ _ _ _ _ _ _ _ _ _ _ _ _ _ _ _ _ _ _ _ _ _ _ _ _ _ _ _ _ _ _ _ _ _ _ _ _ _ _ _ _ _ _ _ _ _ _ _ _ _ _ _ _ _ _ _ _ _ _ _ _ _ _ _ _ _ _ _ _ _ _ _ _ _ _ _ _ _ _ _ _ _ _ _ _ _ _ _ _ _ _ _ _ _ _ _ _ _ _ _ _ _ _ _ _ _ _ _ _ _ _ _ _ _ _ _ _ _ _ _ _ _ _ _ _ _ _ _ _ _ _ _ _ _ _ _ _ _ _ _ _ _ _ _ _ _ _ _ _ _ _ _ _ _ _ _ _ _ _ _ _ _ _ _ _ _ _ _ _ _ _ _ _ _ _ _ _ _ _ _ _ _ _ _ _ _ _ _ _ _ _ _ _ _ _ _ _ _ _ _ _ _ _ _ _ _ _ _ _ _ _ _ _ _ _ _ _ _ _ _ _ ?_
      refine Go.Lib.hid ?_
      intro z6 z13 z15 z17 z18 z19 z20 z21 z67 z68 z69 z70 z71 z72 z73 z74 z75 z76 z77 z78 z79 z80 z81 z82 z83 z84 z85 z86 z87 z88 z89 z90 z91 z92 z93 z94 z95 z96 z97 z98 z99 z100 z101 z102 z103 z104 z105 z106 z107 z108 z109 z110 z111 z112 z113 z114 z115 z116 z117 z118 z119 z120 z121 z122 z123 z124 z125 z126 z127 z128 z129 z130 z131 z132 z133 z134 z135 z136 z137 z138 z139 z140 z141 z142 z143 z144 z145 z146 z147 z148 z149 z150 z151 z152 z153 z154 z155 z156 z157 z158 z159 z160 z161 z162 z163 z164 z165 z166 z167 z168 z169 z170 z171 z172 z173 z174 z175 z176 z177 z178 z179 z180 z181 z182 z183 z184 z185 z186 z187 z188 z189 z190 z191 z192 z193 z194 z195 z196 z197 z198 z199 z200 z201 z202 z203 z204 z205 z206 z207 z208 z209 z210 z211 z212 z213 z214 z215 z216 z217 z218 z219 z220 z221 z222 z223 z224 z225 z226 z227 z228 z229 z230 z231 z232 z233 z234 z235 z236 z237 z238 z239 z240 z241 z242 z243 z244 z245 z246 z247 z248 z249 z250 z251 z252 z253 z254 z255 q' D' S' b1 d1 b2 d2 bL dL v' hP' hS' hB'
      exact ⟨⟨_, _, _, _, _, _, _, _, _, _, _, _, _, _, _, _, _, _, _, _, _, _, _, _, _, _, _, _, _, _, _, _, _, _, _, _, _, _, _, _, _, _, _, _, _, _, _, _, _, _, _, _, _, _, _, _, _, _, _, _, _, _, _, _, _, _, _, _, _, _, _, _, _, _, _, _, _, _, _, _, _, _, _, _, _, _, _, _, _, _, _, _, _, _, _, _, _, _, _, _, _, _, _, _, _, _, _, _, _, _, _, _, _, _, _, _, _, _, _, _, _, _, _, _, _, _, _, _, _, _, _, _, _, _, _, _, _, _, _, _, _, _, _, _, _, _, _, _, _, _, _, _, _, _, _, _, _, _, _, _, _, _, _, _, _, _, _, _, _, _, _, _, _, _, _, _, _, _, _, _, _, _, _, _, _, _, _, _, _, _, _, _, _, _, _, _, _, _, _, .inr ⟨k + 1, q', D', S', b1, d1, b2, d2, bL, dL, by omega, rfl, by simp, hP', hS', hB'⟩, rfl⟩, by simp [intOf]; omega⟩
    by_cases hA7 : kv = 7
    · subst hA7
      refine spl_B7 w wr p g h N0 n c0 b o i1 hN1 hN24 wf1 hbd hnc k q D S a1 c1 a2 c2 aL cL hlt hk30 P SS HB K N long a' c'' bs wN q0 q1 q2 q3 hbs0 h60 hkv _ _ _ _ _ _ _ _ _ _ _ _ _ _ _ _ _ _ _ _ _ _ _ _ _ _ _ _ _ _ _ _ _ _ _ _ _ _ _ _ _ _ _ _ _ _ _ _ _ _ _ _ _ _ _ _ _ _ _ _ _ _ _ _ _ _ _ _ _ _ _ _ _ _ _ _ _ _ _ _ _ _ _ _ _ _ _ _ _ _ _ _ _ _ _ _ _ _ _ _ _ _ _ _ _ _ _ _ _ _ _ _ _ _ _ _ _ _ _ _ _ _ _ _ _ _ _ _ _ _ _ _ _ _ _ _ _ _ _ _ _ _ _ _ _ _ _ _ _ _ _ _ _ _ _ _ _ _ _ _ _ _ _ _ _ _ _ _ _ _ _ _ _ _ _ _ _ _ _ _ _ _ _ _ _ _ _ _ _ _ _ _ _ _ _ _ _ _ _ _ _ _ _ _ _ _ _ _ _ _ _ _ _ _ _ _ _ _ _ _ _ _ _ _ _ _ _ _ _ _ _ _ _ _ _ _ _ _ _ _ _ _ _ _ _ _ _ _ _ _ ?_
      refine Go.Lib.hid ?_
      intro z6 z13 z15 z17 z18 z19 z20 z21 z67 z68 z69 z70 z71 z72 z73 z74 z75 z76 z77 z78 z79 z80 z81 z82 z83 z84 z85 z86 z87 z88 z89 z90 z91 z92 z93 z94 z95 z96 z97 z98 z99 z100 z101 z102 z103 z104 z105 z106 z107 z108 z109 z110 z111 z112 z113 z114 z115 z116 z117 z118 z119 z120 z121 z122 z123 z124 z125 z126 z127 z128 z129 z130 z131 z132 z133 z134 z135 z136 z137 z138 z139 z140 z141 z142 z143 z144 z145 z146 z147 z148 z149 z150 z151 z152 z153 z154 z155 z156 z157 z158 z159 z160 z161 z162 z163 z164 z165 z166 z167 z168 z169 z170 z171 z172 z173 z174 z175 z176 z177 z178 z179 z180 z181 z182 z183 z184 z185 z186 z187 z188 z189 z190 z191 z192 z193 z194 z195 z196 z197 z198 z199 z200 z201 z202 z203 z204 z205 z206 z207 z208 z209 z210 z211 z212 z213 z214 z215 z216 z217 z218 z219 z220 z221 z222 z223 z224 z225 z226 z227 z228 z229 z230 z231 z232 z233 z234 z235 z236 z237 z238 z239 z240 z241 z242 z243 z244 z245 z246 z247 z248 z249 z250 z251 z252 z253 z254 z255 q' D' S' b1 d1 b2 d2 bL dL v' hP' hS' hB'
      exact ⟨⟨_, _, _, _, _, _, _, _, _, _, _, _, _, _, _, _, _, _, _, _, _, _, _, _, _, _, _, _, _, _, _, _, _, _, _, _, _, _, _, _, _, _, _, _, _, _, _, _, _, _, _, _, _, _, _, _, _, _, _, _, _, _, _, _, _, _, _, _, _, _, _, _, _, _, _, _, _, _, _, _, _, _, _, _, _, _, _, _, _, _, _, _, _, _, _, _, _, _, _, _, _, _, _, _, _, _, _, _, _, _, _, _, _, _, _, _, _, _, _, _, _, _, _, _, _, _, _, _, _, _, _, _, _, _, _, _, _, _, _, _, _, _, _, _, _, _, _, _, _, _, _, _, _, _, _, _, _, _, _, _, _, _, _, _, _, _, _, _, _, _, _, _, _, _, _, _, _, _, _, _, _, _, _, _, _, _, _, _, _, _, _, _, _, _, _, _, _, _, _, .inr ⟨k + 1, q', D', S', b1, d1, b2, d2, bL, dL, by omega, rfl, by simp, hP', hS', hB'⟩, rfl⟩, by simp [intOf]; omega⟩
    by_cases hA8 : kv = 8
    · subst hA8
      refine spl_C8 w wr p g h N0 n c0 b o i1 hN1 hN24 wf1 hbd hnc k q D S a1 c1 a2 c2 aL cL hlt hk30 P SS HB K N long a' c'' bs wN q0 q1 q2 q3 hbs0 h60 hkv _ _ _ _ _ _ _ _ _ _ _ _ _ _ _ _ _ _ _ _ _ _ _ _ _ _ _ _ _ _ _ _ _ _ _ _ _ _ _ _ _ _ _ _ _ _ _ _ _ _ _ _ _ _ _ _ _ _ _ _ _ _ _ _ _ _ _ _ _ _ _ _ _ _ _ _ _ _ _ _ _ _ _ _ _ _ _ _ _ _ _ _ _ _ _ _ _ _ _ _ _ _ _ _ _ _ _ _ _ _ _ _ _ _ _ _ _ _ _ _ _ _ _ _ _ _ _ _ _ _ _ _ _ _ _ _ _ _ _ _ _ _ _ _ _ _ _ _ _ _ _ _ _ _ _ _ _ _ _ _ _ _ _ _ _ _ _ _ _ _ _ _ _ _ _ _ _ _ _ _ _ _ _ _ _ _ _ _ _ _ _ _ _ _ _ _ _ _ _ _ _ _ _ _ _ _ _ _ _ _ _ _ _ _ _ _ _ _ _ _ _ _ _ _ _ _ _ _ _ _ _ _ _ _ _ _ _ _ _ _ _ _ _ _ _ _ _ _ _ _ ?_
      refine Go.Lib.hid ?_
      intro z6 z13 z15 z17 z18 z19 z20 z21 z67 z68 z69 z70 z71 z72 z73 z74 z75 z76 z77 z78 z79 z80 z81 z82 z83 z84 z85 z86 z87 z88 z89 z90 z91 z92 z93 z94 z95 z96 z97 z98 z99 z100 z101 z102 z103 z104 z105 z106 z107 z108 z109 z110 z111 z112 z113 z114 z115 z116 z117 z118 z119 z120 z121 z122 z123 z124 z125 z126 z127 z128 z129 z130 z131 z132 z133 z134 z135 z136 z137 z138 z139 z140 z141 z142 z143 z144 z145 z146 z147 z148 z149 z150 z151 z152 z153 z154 z155 z156 z157 z158 z159 z160 z161 z162 z163 z164 z165 z166 z167 z168 z169 z170 z171 z172 z173 z174 z175 z176 z177 z178 z179 z180 z181 z182 z183 z184 z185 z186 z187 z188 z189 z190 z191 z192 z193 z194 z195 z196 z197 z198 z199 z200 z201 z202 z203 z204 z205 z206 z207 z208 z209 z210 z211 z212 z213 z214 z215 z216 z217 z218 z219 z220 z221 z222 z223 z224 z225 z226 z227 z228 z229 z230 z231 z232 z233 z234 z235 z236 z237 z238 z239 z240 z241 z242 z243 z244 z245 z246 z247 z248 z249 z250 z251 z252 z253 z254 z255 q' D' S' b1 d1 b2 d2 bL dL v' hP' hS' hB'
      exact ⟨⟨_, _, _, _, _, _, _, _, _, _, _, _, _, _, _, _, _, _, _, _, _, _, _, _, _, _, _, _, _, _, _, _, _, _, _, _, _, _, _, _, _, _, _, _, _, _, _, _, _, _, _, _, _, _, _, _, _, _, _, _, _, _, _, _, _, _, _, _, _, _, _, _, _, _, _, _, _, _, _, _, _, _, _, _, _, _, _, _, _, _, _, _, _, _, _, _, _, _, _, _, _, _, _, _, _, _, _, _, _, _, _, _, _, _, _, _, _, _, _, _, _, _, _, _, _, _, _, _, _, _, _, _, _, _, _, _, _, _, _, _, _, _, _, _, _, _, _, _, _, _, _, _, _, _, _, _, _, _, _, _, _, _, _, _, _, _, _, _, _, _, _, _, _, _, _, _, _, _, _, _, _, _, _, _, _, _, _, _, _, _, _, _, _, _, _, _, _, _, _, .inr ⟨k + 1, q', D', S', b1, d1, b2, d2, bL, dL, by omega, rfl, by simp, hP', hS', hB'⟩, rfl⟩, by simp [intOf]; omega⟩
    by_cases hA9 : kv = 9
    · subst hA9
      refine spl_D9 w wr p g h N0 n c0 b o i1 hN1 hN24 wf1 hbd hnc k q D S a1 c1 a2 c2 aL cL hlt hk30 P SS HB K N long a' c'' bs wN q0 q1 q2 q3 hbs0 h60 hkv _ _ _ _ _ _ _ _ _ _ _ _ _ _ _ _ _ _ _ _ _ _ _ _ _ _ _ _ _ _ _ _ _ _ _ _ _ _ _ _ _ _ _ _ _ _ _ _ _ _ _ _ _ _ _ _ _ _ _ _ _ _ _ _ _ _ _ _ _ _ _ _ _ _ _ _ _ _ _ _ _ _ _ _ _ _ _ _ _ _ _ _ _ _ _ _ _ _ _ _ _ _ _ _ _ _ _ _ _ _ _ _ _ _ _ _ _ _ _ _ _ _ _ _ _ _ _ _ _ _ _ _ _ _ _ _ _ _ _ _ _ _ _ _ _ _ _ _ _ _ _ _ _ _ _ _ _ _ _ _ _ _ _ _ _ _ _ _ _ _ _ _ _ _ _ _ _ _ _ _ _ _ _ _ _ _ _ _ _ _ _ _ _ _ _ _ _ _ _ _ _ _ _ _ _ _ _ _ _ _ _ _ _ _ _ _ _ _ _ _ _ _ _ _ _ _ _ _ _ _ _ _ _ _ _ _ _ _ _ _ _ _ _ _ _ _ _ _ _ _ ?_
      refine Go.Lib.hid ?_
      intro z6 z13 z15 z17 z18 z19 z20 z21 z67 z68 z69 z70 z71 z72 z73 z74 z75 z76 z77 z78 z79 z80 z81 z82 z83 z84 z85 z86 z87 z88 z89 z90 z91 z92 z93 z94 z95 z96 z97 z98 z99 z100 z101 z102 z103 z104 z105 z106 z107 z108 z109 z110 z111 z112 z113 z114 z115 z116 z117 z118 z119 z120 z121 z122 z123 z124 z125 z126 z127 z128 z129 z130 z131 z132 z133 z134 z135 z136 z137 z138 z139 z140 z141 z142 z143 z144 z145 z146 z147 z148 z149 z150 z151 z152 z153 z154 z155 z156 z157 z158 z159 z160 z161 z162 z163 z164 z165 z166 z167 z168 z169 z170 z171 z172 z173 z174 z175 z176 z177 z178 z179 z180 z181 z182 z183 z184 z185 z186 z187 z188 z189 z190 z191 z192 z193 z194 z195 z196 z197 z198 z199 z200 z201 z202 z203 z204 z205 z206 z207 z208 z209 z210 z211 z212 z213 z214 z215 z216 z217 z218 z219 z220 z221 z222 z223 z224 z225 z226 z227 z228 z229 z230 z231 z232 z233 z234 z235 z236 z237 z238 z239 z240 z241 z242 z243 z244 z245 z246 z247 z248 z249 z250 z251 z252 z253 z254 z255 q' D' S' b1 d1 b2 d2 bL dL v' hP' hS' hB'
      exact ⟨⟨_, _, _, _, _, _, _, _, _, _, _, _, _, _, _, _, _, _, _, _, _, _, _, _, _, _, _, _, _, _, _, _, _, _, _, _, _, _, _, _, _, _, _, _, _, _, _, _, _, _, _, _, _, _, _, _, _, _, _, _, _, _, _, _, _, _, _, _, _, _, _, _, _, _, _, _, _, _, _, _, _, _, _, _, _, _, _, _, _, _, _, _, _, _, _, _, _, _, _, _, _, _, _, _, _, _, _, _, _, _, _, _, _, _, _, _, _, _, _, _, _, _, _, _, _, _, _, _, _, _, _, _, _, _, _, _, _, _, _, _, _, _, _, _, _, _, _, _, _, _, _, _, _, _, _, _, _, _, _, _, _, _, _, _, _, _, _, _, _, _, _, _, _, _, _, _, _, _, _, _, _, _, _, _, _, _, _, _, _, _, _, _, _, _, _, _, _, _, _, .inr ⟨k + 1, q', D', S', b1, d1, b2, d2, bL, dL, by omega, rfl, by simp, hP', hS', hB'⟩, rfl⟩, by simp [intOf]; omega⟩
    by_cases hA10 : kv = 10
    · subst hA10
      by_cases h46 : bs.length < 46
      · skip
        refine spl_E1 w wr p g h N0 n c0 b o i1 hN1 hN24 wf1 hbd hnc k q D S a1 c1 a2 c2 aL cL hlt hk30 P SS HB K N long a' c'' bs wN q0 q1 q2 q3 hbs0 h60 hkv h46 _ _ _ _ _ _ _ _ _ _ _ _ _ _ _ _ _ _ _ _ _ _ _ _ _ _ _ _ _ _ _ _ _ _ _ _ _ _ _ _ _ _ _ _ _ _ _ _ _ _ _ _ _ _ _ _ _ _ _ _ _ _ _ _ _ _ _ _ _ _ _ _ _ _ _ _ _ _ _ _ _ _ _ _ _ _ _ _ _ _ _ _ _ _ _ _ _ _ _ _ _ _ _ _ _ _ _ _ _ _ _ _ _ _ _ _ _ _ _ _ _ _ _ _ _ _ _ _ _ _ _ _ _ _ _ _ _ _ _ _ _ _ _ _ _ _ _ _ _ _ _ _ _ _ _ _ _ _ _ _ _ _ _ _ _ _ _ _ _ _ _ _ _ _ _ _ _ _ _ _ _ _ _ _ _ _ _ _ _ _ _ _ _ _ _ _ _ _ _ _ _ _ _ _ _ _ _ _ _ _ _ _ _ _ _ _ _ _ _ _ _ _ _ _ _ _ _ _ _ _ _ _ _ _ _ _ _ _ _ _ _ _ _ _ _ _ _ _ _ _ ?_
        refine Go.Lib.hid ?_
        intro z6 z13 z15 z17 z18 z19 z20 z21 z67 z68 z69 z70 z71 z72 z73 z74 z75 z76 z77 z78 z79 z80 z81 z82 z83 z84 z85 z86 z87 z88 z89 z90 z91 z92 z93 z94 z95 z96 z97 z98 z99 z100 z101 z102 z103 z104 z105 z106 z107 z108 z109 z110 z111 z112 z113 z114 z115 z116 z117 z118 z119 z120 z121 z122 z123 z124 z125 z126 z127 z128 z129 z130 z131 z132 z133 z134 z135 z136 z137 z138 z139 z140 z141 z142 z143 z144 z145 z146 z147 z148 z149 z150 z151 z152 z153 z154 z155 z156 z157 z158 z159 z160 z161 z162 z163 z164 z165 z166 z167 z168 z169 z170 z171 z172 z173 z174 z175 z176 z177 z178 z179 z180 z181 z182 z183 z184 z185 z186 z187 z188 z189 z190 z191 z192 z193 z194 z195 z196 z197 z198 z199 z200 z201 z202 z203 z204 z205 z206 z207 z208 z209 z210 z211 z212 z213 z214 z215 z216 z217 z218 z219 z220 z221 z222 z223 z224 z225 z226 z227 z228 z229 z230 z231 z232 z233 z234 z235 z236 z237 z238 z239 z240 z241 z242 z243 z244 z245 z246 z247 z248 z249 z250 z251 z252 z253 z254 z255 q' D' S' b1 d1 b2 d2 bL dL v' hP' hS' hB'
        exact ⟨⟨_, _, _, _, _, _, _, _, _, _, _, _, _, _, _, _, _, _, _, _, _, _, _, _, _, _, _, _, _, _, _, _, _, _, _, _, _, _, _, _, _, _, _, _, _, _, _, _, _, _, _, _, _, _, _, _, _, _, _, _, _, _, _, _, _, _, _, _, _, _, _, _, _, _, _, _, _, _, _, _, _, _, _, _, _, _, _, _, _, _, _, _, _, _, _, _, _, _, _, _, _, _, _, _, _, _, _, _, _, _, _, _, _, _, _, _, _, _, _, _, _, _, _, _, _, _, _, _, _, _, _, _, _, _, _, _, _, _, _, _, _, _, _, _, _, _, _, _, _, _, _, _, _, _, _, _, _, _, _, _, _, _, _, _, _, _, _, _, _, _, _, _, _, _, _, _, _, _, _, _, _, _, _, _, _, _, _, _, _, _, _, _, _, _, _, _, _, _, _, .inr ⟨k + 1, q', D', S', b1, d1, b2, d2, bL, dL, by omega, rfl, by simp, hP', hS', hB'⟩, rfl⟩, by simp [intOf]; omega⟩
      refine spl_E2 w wr p g h N0 n c0 b o i1 hN1 hN24 wf1 hbd hnc k q D S a1 c1 a2 c2 aL cL hlt hk30 P SS HB K N long a' c'' bs wN q0 q1 q2 q3 hbs0 h60 hkv h46 _ _ _ _ _ _ _ _ _ _ _ _ _ _ _ _ _ _ _ _ _ _ _ _ _ _ _ _ _ _ _ _ _ _ _ _ _ _ _ _ _ _ _ _ _ _ _ _ _ _ _ _ _ _ _ _ _ _ _ _ _ _ _ _ _ _ _ _ _ _ _ _ _ _ _ _ _ _ _ _ _ _ _ _ _ _ _ _ _ _ _ _ _ _ _ _ _ _ _ _ _ _ _ _ _ _ _ _ _ _ _ _ _ _ _ _ _ _ _ _ _ _ _ _ _ _ _ _ _ _ _ _ _ _ _ _ _ _ _ _ _ _ _ _ _ _ _ _ _ _ _ _ _ _ _ _ _ _ _ _ _ _ _ _ _ _ _ _ _ _ _ _ _ _ _ _ _ _ _ _ _ _ _ _ _ _ _ _ _ _ _ _ _ _ _ _ _ _ _ _ _ _ _ _ _ _ _ _ _ _ _ _ _ _ _ _ _ _ _ _ _ _ _ _ _ _ _ _ _ _ _ _ _ _ _ _ _ _ _ _ _ _ _ _ _ _ _ _ _ _ ?_
      refine Go.Lib.hid ?_
      intro z6 z13 z15 z17 z18 z19 z20 z21 z67 z68 z69 z70 z71 z72 z73 z74 z75 z76 z77 z78 z79 z80 z81 z82 z83 z84 z85 z86 z87 z88 z89 z90 z91 z92 z93 z94 z95 z96 z97 z98 z99 z100 z101 z102 z103 z104 z105 z106 z107 z108 z109 z110 z111 z112 z113 z114 z115 z116 z117 z118 z119 z120 z121 z122 z123 z124 z125 z126 z127 z128 z129 z130 z131 z132 z133 z134 z135 z136 z137 z138 z139 z140 z141 z142 z143 z144 z145 z146 z147 z148 z149 z150 z151 z152 z153 z154 z155 z156 z157 z158 z159 z160 z161 z162 z163 z164 z165 z166 z167 z168 z169 z170 z171 z172 z173 z174 z175 z176 z177 z178 z179 z180 z181 z182 z183 z184 z185 z186 z187 z188 z189 z190 z191 z192 z193 z194 z195 z196 z197 z198 z199 z200 z201 z202 z203 z204 z205 z206 z207 z208 z209 z210 z211 z212 z213 z214 z215 z216 z217 z218 z219 z220 z221 z222 z223 z224 z225 z226 z227 z228 z229 z230 z231 z232 z233 z234 z235 z236 z237 z238 z239 z240 z241 z242 z243 z244 z245 z246 z247 z248 z249 z250 z251 z252 z253 z254 z255 q' D' S' b1 d1 b2 d2 bL dL v' hP' hS' hB'
      exact ⟨⟨_, _, _, _, _, _, _, _, _, _, _, _, _, _, _, _, _, _, _, _, _, _, _, _, _, _, _, _, _, _, _, _, _, _, _, _, _, _, _, _, _, _, _, _, _, _, _, _, _, _, _, _, _, _, _, _, _, _, _, _, _, _, _, _, _, _, _, _, _, _, _, _, _, _, _, _, _, _, _, _, _, _, _, _, _, _, _, _, _, _, _, _, _, _, _, _, _, _, _, _, _, _, _, _, _, _, _, _, _, _, _, _, _, _, _, _, _, _, _, _, _, _, _, _, _, _, _, _, _, _, _, _, _, _, _, _, _, _, _, _, _, _, _, _, _, _, _, _, _, _, _, _, _, _, _, _, _, _, _, _, _, _, _, _, _, _, _, _, _, _, _, _, _, _, _, _, _, _, _, _, _, _, _, _, _, _, _, _, _, _, _, _, _, _, _, _, _, _, _, .inr ⟨k + 1, q', D', S', b1, d1, b2, d2, bL, dL, by omega, rfl, by simp, hP', hS', hB'⟩, rfl⟩, by simp [intOf]; omega⟩
    have e0 : (kv == 0) = false := by simp; omega
    have e1 : (kv == 1) = false := by simp; omega
    have e2 : (kv == 2) = false := by simp; omega
    have e3 : (kv == 3) = false := by simp; omega
    have e4 : (kv == 4) = false := by simp; omega
    have e5 : (kv == 5) = false := by simp; omega
    have e6 : (kv == 6) = false := by simp; omega
    have e7 : (kv == 7) = false := by simp; omega
    have e8 : (kv == 8) = false := by simp; omega
    have e9 : (kv == 9) = false := by simp; omega
    have e10 : (kv == 10) = false := by simp; omega
    by_cases ho : openE (D.crash bs) i1 ((N0 : Int) - 2) = 0
    · skip
      refine spl_X0 w wr p g h N0 n c0 b o i1 hN1 hN24 wf1 hbd hnc k q D S a1 c1 a2 c2 aL cL hlt hk30 P SS HB K N long a' c'' bs wN q0 q1 q2 q3 hbs0 h60 kv hkv e0 e1 e2 e3 e4 e5 e6 e7 e8 e9 e10 ho _ _ _ _ _ _ _ _ _ _ _ _ _ _ _ _ _ _ _ _ _ _ _ _ _ _ _ _ _ _ _ _ _ _ _ _ _ _ _ _ _ _ _ _ _ _ _ _ _ _ _ _ _ _ _ _ _ _ _ _ _ _ _ _ _ _ _ _ _ _ _ _ _ _ _ _ _ _ _ _ _ _ _ _ _ _ _ _ _ _ _ _ _ _ _ _ _ _ _ _ _ _ _ _ _ _ _ _ _ _ _ _ _ _ _ _ _ _ _ _ _ _ _ _ _ _ _ _ _ _ _ _ _ _ _ _ _ _ _ _ _ _ _ _ _ _ _ _ _ _ _ _ _ _ _ _ _ _ _ _ _ _ _ _ _ _ _ _ _ _ _ _ _ _ _ _ _ _ _ _ _ _ _ _ _ _ _ _ _ _ _ _ _ _ _ _ _ _ _ _ _ _ _ _ _ _ _ _ _ _ _ _ _ _ _ _ _ _ _ _ _ _ _ _ _ _ _ _ _ _ _ _ _ _ _ _ _ _ _ _ _ _ _ _ _ _ _ _ _ _ ?_
      refine Go.Lib.hid ?_
      intro z6 z13 z15 z17 z18 z19 z20 z21 z67 z68 z69 z70 z71 z72 z73 z74 z75 z76 z77 z78 z79 z80 z81 z82 z83 z84 z85 z86 z87 z88 z89 z90 z91 z92 z93 z94 z95 z96 z97 z98 z99 z100 z101 z102 z103 z104 z105 z106 z107 z108 z109 z110 z111 z112 z113 z114 z115 z116 z117 z118 z119 z120 z121 z122 z123 z124 z125 z126 z127 z128 z129 z130 z131 z132 z133 z134 z135 z136 z137 z138 z139 z140 z141 z142 z143 z144 z145 z146 z147 z148 z149 z150 z151 z152 z153 z154 z155 z156 z157 z158 z159 z160 z161 z162 z163 z164 z165 z166 z167 z168 z169 z170 z171 z172 z173 z174 z175 z176 z177 z178 z179 z180 z181 z182 z183 z184 z185 z186 z187 z188 z189 z190 z191 z192 z193 z194 z195 z196 z197 z198 z199 z200 z201 z202 z203 z204 z205 z206 z207 z208 z209 z210 z211 z212 z213 z214 z215 z216 z217 z218 z219 z220 z221 z222 z223 z224 z225 z226 z227 z228 z229 z230 z231 z232 z233 z234 z235 z236 z237 z238 z239 z240 z241 z242 z243 z244 z245 z246 z247 z248 z249 z250 z251 z252 z253 z254 z255 q' D' S' b1 d1 b2 d2 bL dL v' hP' hS' hB'
      exact ⟨⟨_, _, _, _, _, _, _, _, _, _, _, _, _, _, _, _, _, _, _, _, _, _, _, _, _, _, _, _, _, _, _, _, _, _, _, _, _, _, _, _, _, _, _, _, _, _, _, _, _, _, _, _, _, _, _, _, _, _, _, _, _, _, _, _, _, _, _, _, _, _, _, _, _, _, _, _, _, _, _, _, _, _, _, _, _, _, _, _, _, _, _, _, _, _, _, _, _, _, _, _, _, _, _, _, _, _, _, _, _, _, _, _, _, _, _, _, _, _, _, _, _, _, _, _, _, _, _, _, _, _, _, _, _, _, _, _, _, _, _, _, _, _, _, _, _, _, _, _, _, _, _, _, _, _, _, _, _, _, _, _, _, _, _, _, _, _, _, _, _, _, _, _, _, _, _, _, _, _, _, _, _, _, _, _, _, _, _, _, _, _, _, _, _, _, _, _, _, _, _, .inr ⟨k + 1, q', D', S', b1, d1, b2, d2, bL, dL, by omega, rfl, by simp, hP', hS', hB'⟩, rfl⟩, by simp [intOf]; omega⟩
    obtain ⟨x, hx⟩ : ∃ x, openE (D.crash bs) i1 ((N0 : Int) - 2) = x := ⟨_, rfl⟩
    rw [hx] at ho
    refine spl_X1 w wr p g h N0 n c0 b o i1 hN1 hN24 wf1 hbd hnc k q D S a1 c1 a2 c2 aL cL hlt hk30 P SS HB K N long a' c'' bs wN q0 q1 q2 q3 hbs0 h60 kv hkv e0 e1 e2 e3 e4 e5 e6 e7 e8 e9 e10 x ho hx _ _ _ _ _ _ _ _ _ _ _ _ _ _ _ _ _ _ _ _ _ _ _ _ _ _ _ _ _ _ _ _ _ _ _ _ _ _ _ _ _ _ _ _ _ _ _ _ _ _ _ _ _ _ _ _ _ _ _ _ _ _ _ _ _ _ _ _ _ _ _ _ _ _ _ _ _ _ _ _ _ _ _ _ _ _ _ _ _ _ _ _ _ _ _ _ _ _ _ _ _ _ _ _ _ _ _ _ _ _ _ _ _ _ _ _ _ _ _ _ _ _ _ _ _ _ _ _ _ _ _ _ _ _ _ _ _ _ _ _ _ _ _ _ _ _ _ _ _ _ _ _ _ _ _ _ _ _ _ _ _ _ _ _ _ _ _ _ _ _ _ _ _ _ _ _ _ _ _ _ _ _ _ _ _ _ _ _ _ _ _ _ _ _ _ _ _ _ _ _ _ _ _ _ _ _ _ _ _ _ _ _ _ _ _ _ _ _ _ _ _ _ _ _ _ _ _ _ _ _ _ _ _ _ _ _ _ _ _ _ _ _ _ _ _ _ _ _ _ _ ?_ ?_
    · skip
      refine Go.Lib.hid ?_
      intro z6 z13 z15 z17 z18 z19 z20 z21 z67 z68 z69 z70 z71 z72 z73 z74 z75 z76 z77 z78 z79 z80 z81 z82 z83 z84 z85 z86 z87 z88 z89 z90 z91 z92 z93 z94 z95 z96 z97 z98 z99 z100 z101 z102 z103 z104 z105 z106 z107 z108 z109 z110 z111 z112 z113 z114 z115 z116 z117 z118 z119 z120 z121 z122 z123 z124 z125 z126 z127 z128 z129 z130 z131 z132 z133 z134 z135 z136 z137 z138 z139 z140 z141 z142 z143 z144 z145 z146 z147 z148 z149 z150 z151 z152 z153 z154 z155 z156 z157 z158 z159 z160 z161 z162 z163 z164 z165 z166 z167 z168 z169 z170 z171 z172 z173 z174 z175 z176 z177 z178 z179 z180 z181 z182 z183 z184 z185 z186 z187 z188 z189 z190 z191 z192 z193 z194 z195 z196 z197 z198 z199 z200 z201 z202 z203 z204 z205 z206 z207 z208 z209 z210 z211 z212 z213 z214 z215 z216 z217 z218 z219 z220 z221 z222 z223 z224 z225 z226 z227 z228 z229 z230 z231 z232 z233 z234 z235 z236 z237 z238 z239 z240 z241 z242 z243 z244 z245 z246 z247 z248 z249 z250 z251 z252 z253 z254 z255 q' D' S' b1 d1 b2 d2 bL dL v' hP' hS' hB'
      exact ⟨⟨_, _, _, _, _, _, _, _, _, _, _, _, _, _, _, _, _, _, _, _, _, _, _, _, _, _, _, _, _, _, _, _, _, _, _, _, _, _, _, _, _, _, _, _, _, _, _, _, _, _, _, _, _, _, _, _, _, _, _, _, _, _, _, _, _, _, _, _, _, _, _, _, _, _, _, _, _, _, _, _, _, _, _, _, _, _, _, _, _, _, _, _, _, _, _, _, _, _, _, _, _, _, _, _, _, _, _, _, _, _, _, _, _, _, _, _, _, _, _, _, _, _, _, _, _, _, _, _, _, _, _, _, _, _, _, _, _, _, _, _, _, _, _, _, _, _, _, _, _, _, _, _, _, _, _, _, _, _, _, _, _, _, _, _, _, _, _, _, _, _, _, _, _, _, _, _, _, _, _, _, _, _, _, _, _, _, _, _, _, _, _, _, _, _, _, _, _, _, _, .inr ⟨k + 1, q', D', S', b1, d1, b2, d2, bL, dL, by omega, rfl, by simp, hP', hS', hB'⟩, rfl⟩, by simp [intOf]; omega⟩
    · skip
      refine Go.Lib.hid ?_
      intro z6 z13 z15 z17 z18 z19 z20 z21 z67 z68 z69 z70 z71 z72 z73 z74 z75 z76 z77 z78 z79 z80 z81 z82 z83 z84 z85 z86 z87 z88 z89 z90 z91 z92 z93 z94 z95 z96 z97 z98 z99 z100 z101 z102 z103 z104 z105 z106 z107 z108 z109 z110 z111 z112 z113 z114 z115 z116 z117 z118 z119 z120 z121 z122 z123 z124 z125 z126 z127 z128 z129 z130 z131 z132 z133 z134 z135 z136 z137 z138 z139 z140 z141 z142 z143 z144 z145 z146 z147 z148 z149 z150 z151 z152 z153 z154 z155 z156 z157 z158 z159 z160 z161 z162 z163 z164 z165 z166 z167 z168 z169 z170 z171 z172 z173 z174 z175 z176 z177 z178 z179 z180 z181 z182 z183 z184 z185 z186 z187 z188 z189 z190 z191 z192 z193 z194 z195 z196 z197 z198 z199 z200 z201 z202 z203 z204 z205 z206 z207 z208 z209 z210 z211 z212 z213 z214 z215 z216 z217 z218 z219 z220 z221 z222 z223 z224 z225 z226 z227 z228 z229 z230 z231 z232 z233 z234 z235 z236 z237 z238 z239 z240 z241 z242 z243 z244 z245 z246 z247 z248 z249 z250 z251 z252 z253 z254 z255 v' hB'
      exact ⟨⟨_, _, _, _, _, _, _, _, _, _, _, _, _, _, _, _, _, _, _, _, _, _, _, _, _, _, _, _, _, _, _, _, _, _, _, _, _, _, _, _, _, _, _, _, _, _, _, _, _, _, _, _, _, _, _, _, _, _, _, _, _, _, _, _, _, _, _, _, _, _, _, _, _, _, _, _, _, _, _, _, _, _, _, _, _, _, _, _, _, _, _, _, _, _, _, _, _, _, _, _, _, _, _, _, _, _, _, _, _, _, _, _, _, _, _, _, _, _, _, _, _, _, _, _, _, _, _, _, _, _, _, _, _, _, _, _, _, _, _, _, _, _, _, _, _, _, _, _, _, _, _, _, _, _, _, _, _, _, _, _, _, _, _, _, _, _, _, _, _, _, _, _, _, _, _, _, _, _, _, _, _, _, _, _, _, _, _, _, _, _, _, _, _, _, _, _, _, _, _, .inl ⟨k + 1, by simp, rfl, hB'⟩, rfl⟩, by simp [intOf]; omega⟩
end Go.Proofs.Ytmgkaoenjnnlmaa
