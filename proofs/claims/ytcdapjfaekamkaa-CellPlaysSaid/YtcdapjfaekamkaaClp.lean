/- The walk for the statement CellPlays. -/
import Derived.Test.YtcdapjfaekamkaaClr1
import Derived.Test.YtcdapjfaekamkaaClr2
import Derived.Test.YtcdapjfaekamkaaClr3
import Derived.Test.YtcdapjfaekamkaaClr4
import Derived.Test.YtcdapjfaekamkaaOpena
namespace Go.Proofs.Ytcdapjfaekamkaa
open Go.RowKit
open Go.NB (Rd Dk Kp Stp Off Dis val Ce footC)

set_option maxRecDepth 100000 in
set_option maxHeartbeats 16000000 in
theorem law_cplays (w : World) (i0 i1 : Int) (a : Option Addr) (n c0 : Nat) (wf0 : (Lit.int .i64 i0).wf = true) (wf1 : (Lit.int .i64 i1).wf = true) (h : NB.ActsC w a n c0) :
    Calls Try.prog 7 #[.int .i64 i0, .int .i64 i1, .slice a n c0] w fun e w' => e = .returned (.bool true) ∧ Below w.heap.size w w' := by
  obtain ⟨hnc, hcm, hacts⟩ := h
  have hbd : n ≤ 9223372036854775807 ∧ c0 ≤ 9223372036854775807 := by unfold maxLen at hcm; omega
  by_cases h1 : i0 < 1
  · go_enter Try.func7, Try.ntmps7
    go_wp2_with (first
      | (go_at_call 8; refine (awake_any _).mono ?_; rintro e w1 ⟨rfl, hb1⟩))
    go_ret
    exact ⟨rfl, hb1⟩
  by_cases h8 : 8 < i0
  · have h1d : decide (i0 < 1) = false := by simpa using h1
    go_enter Try.func7, Try.ntmps7
    go_wp2_with (first
      | (go_at_call 8; refine (awake_any _).mono ?_; rintro e w1 ⟨rfl, hb1⟩))
    go_ret
    exact ⟨rfl, hb1⟩
  obtain ⟨N0, rfl⟩ := Int.eq_ofNat_of_zero_le (show 0 ≤ i0 by omega)
  have hN1 : 1 ≤ N0 := by omega
  have hN8 : N0 ≤ 8 := by omega
  have hfl : (Dk.fresh N0).waits.length = 0 := rfl
  have hfn : (Dk.fresh N0).l.length = N0 := by simp [Dk.fresh]
  have hfc := calm_fresh N0
  obtain ⟨D0, hD0⟩ : ∃ D0, Dk.fresh N0 = D0 := ⟨_, rfl⟩
  have hnew := fun w => dnew_any w N0 hN1 (by omega)
  have hrnew := fun w => rnew_any w N0 hN1 (by omega)
  unfold MadeD at hnew
  rw [hD0] at hnew hrnew hfl hfn hfc
  have HFL := Go.Lib.hid hfl
  have HFN := Go.Lib.hid hfn
  have HFC := Go.Lib.hid hfc
  clear hfl hfn hfc
  have HNEW := Go.Lib.hid hnew
  have HRN := Go.Lib.hid hrnew
  clear hnew hrnew hD0
  go_enter Try.func7, Try.ntmps7
  go_wp2_with (first
    | (go_at_call 8; refine (awake_any _).mono ?_; rintro e w1 ⟨rfl, hb1⟩)
    | (go_at_call 9; refine (HNEW.out _).mono ?_; rintro e w2 ⟨p, G, rfl, hD2, hb2⟩; have B2 := bel hb1 hb2 hb1.size)
    | (go_at_call 18; refine (HRN.out _).mono ?_; rintro e w3 ⟨v3, rfl, hr3, hb3, hl3⟩; have B3 := bel B2 hb3 B2.size; have hr30 := hr3; obtain ⟨a1, c1, a2, c2, rfl, _, _⟩ := hr3; unfold rdV))
  have hbase : w.heap.size ≤ w1.heap.size := hb1.size
  have hob := oneB w3 (.cells #[.slice a1 D0.l.length c1, .slice a2 D0.waits.length c2, .int .i64 D0.left, .bool D0.down] 49)
  have B4 := bel B3 hob B3.size
  have hR4 : Rw (w3.alloc (.cells #[.slice a1 D0.l.length c1, .slice a2 D0.waits.length c2, .int .i64 D0.left, .bool D0.down] 49)) w3.heap.size [.slice a1 D0.l.length c1, .slice a2 D0.waits.length c2, .int .i64 D0.left, .bool D0.down] 49 := rw_new w3 [.slice a1 D0.l.length c1, .slice a2 D0.waits.length c2, .int .i64 D0.left, .bool D0.down] _ rfl
  have hr4 := hr30.below hob
  have hD4 := (hD2.below hb3).below hob
  have hG : ∀ j, G j → j < w2.heap.size := fun j hj => (hD2.foot j hj).2
  have hlo : ∀ k, locR (rdV a1 D0.l.length c1 a2 D0.waits.length c2 D0.left D0.down) k → ¬ G k ∧ k < w3.heap.size := fun k hk => by
    have hlow := hr30.low k hk
    rcases hl3 k hk with h1 | h1
    · obtain ⟨_, _, _, _, _, _, _, _, _, e, _⟩ := h1
      exact nomatch e
    · exact ⟨fun hf => by have := (hD2.foot k hf).2; omega, hlow⟩
  have hgw : w.heap.size ≤ w3.heap.size := B3.size
  have hg2 : w2.heap.size ≤ w3.heap.size := hb3.size
  have hgs : w3.heap.size < (w3.alloc (.cells #[.slice a1 D0.l.length c1, .slice a2 D0.waits.length c2, .int .i64 D0.left, .bool D0.down] 49)).heap.size := hR4.lt
  clear hD2 hb2 hr30 hb3 hl3 B2 B3 hob
  generalize hg : w3.heap.size = g at *
  generalize w3.alloc (.cells #[.slice a1 D0.l.length c1, .slice a2 D0.waits.length c2, .int .i64 D0.left, .bool D0.down] 49) = w4 at *
  clear hg
  have hd64 := hD4.l64
  have HD64 := Go.Lib.hid hd64
  clear hd64
  by_cases hbad : i1 < 0 ∨ (D0.l.length : Int) - 2 < i1
  · go_at_call 10
    refine (open_bad _ _ p G D0 i1 hD4 hbad).mono ?_
    rintro e w5 ⟨rfl, hb5⟩
    have B5 := bel B4 hb5 B4.size
    obtain ⟨y0, y1, y2, y3, _, _, _, _⟩ := rw4 (hR4.below hb5)
    have hro := ropen_bad w5 _ D0 (hr4.below hb5) i1 hbad (by rw [HFN.out]; omega)
    unfold rdV cV at hro
    have HRO := Go.Lib.hid hro
    clear hro
    go_wp2_with fail
    go_at_call 19
    refine HRO.out.mono ?_
    rintro e w6 ⟨rfl, hb6⟩
    have B6 := bel B5 hb6 B5.size
    go_wp2_with fail
    have B7 := B6.alloc B6.size (.cells #[.int .i64 0, .int .i64 0, .int .u64 0, .int .u64 0, .string ⟨#[]⟩, .int .i64 0] 53)
    generalize w6.alloc (.cells #[.int .i64 0, .int .i64 0, .int .u64 0, .int .u64 0, .string ⟨#[]⟩, .int .i64 0] 53) = w7 at *
    go_loopw [12, 16] (fun x y wr => x = .pointer none ∧ y = .int .i64 0 ∧ wr = w7) (fun _ _ _ => 0)
    case atStart => exact ⟨rfl, rfl, rfl⟩
    case round =>
      obtain ⟨rfl, rfl, rfl⟩ := hrel
      by_cases h0 : 0 < n
      · have h0i : (0 : Int) < (n : Int) := by omega
        go_wp2_with fail
        go_ret
        exact ⟨rfl, B7⟩
      · have h0i : ¬ (0 : Int) < (n : Int) := by omega
        go_wp2_with fail
        go_ret
        exact ⟨rfl, B7⟩
  obtain ⟨at_, rfl⟩ := Int.eq_ofNat_of_zero_le (show 0 ≤ i1 by omega)
  have hln0 := HFN.out
  have hat2 : at_ + 2 ≤ N0 := by omega
  clear hln0
  obtain ⟨C0, hC0⟩ : ∃ C0, openL at_ D0.l = C0 := ⟨_, rfl⟩
  have hci := ci_open at_ D0.l
  have hop := open_calm w4 _ p G D0 at_ hD4 HFC.out (by rw [HFN.out]; omega)
  rw [hC0] at hci hop
  have HC0 := Go.Lib.hid hC0
  have HOP := Go.Lib.hid hop
  clear hC0 hop hbad
  go_at_call 10
  refine HOP.out.mono ?_
  rintro e w5 ⟨q, F, rfl, hC5, hD5, hFG5, hq5, hF5, hb5⟩
  have B5 := bel B4 hb5 B4.size
  have hR5 := hR4.below hb5
  have hr5 := hr4.below hb5
  obtain ⟨y0, y1, y2, y3, _, _, _, _⟩ := rw4 hR5
  have hro := ropen_any w5 _ D0 hr5 at_ HFC.out (by rw [HFN.out]; omega) (by rw [HFN.out]; omega) HD64.out
  rw [HC0.out] at hro
  unfold rdV cV at hro
  have HRO := Go.Lib.hid hro
  clear hro
  go_wp2_with fail
  go_at_call 19
  refine HRO.out.mono ?_
  rintro e w6 ⟨rfl, hb6⟩
  have B6 := bel B5 hb6 B5.size
  go_wp2_with fail
  have hob := oneB w6 (.cells #[.int .i64 (C0.at_ : Int), .int .i64 C0.now, .int .u64 (C0.turn : Int), .int .u64 (C0.top : Int), .string ⟨C0.b.toArray⟩, .int .i64 C0.e] 53)
  have B7 := bel B6 hob B6.size
  have hRC : Rw (w6.alloc (.cells #[.int .i64 (C0.at_ : Int), .int .i64 C0.now, .int .u64 (C0.turn : Int), .int .u64 (C0.top : Int), .string ⟨C0.b.toArray⟩, .int .i64 C0.e] 53)) w6.heap.size (cL C0) 53 := rw_new w6 (cL C0) _ rfl
  have hs4 := hb5.size
  have hs5 := hb6.size
  have hP : Pc (w6.alloc (.cells #[.int .i64 (C0.at_ : Int), .int .i64 C0.now, .int .u64 (C0.turn : Int), .int .u64 (C0.top : Int), .string ⟨C0.b.toArray⟩, .int .i64 C0.e] 53)) w1.heap.size q p g w6.heap.size F G C0 C0 D0 D0 a1 c1 a2 c2 :=
    { cell := (hC5.below hb6).below hob
      d := (hD5.below hb6).below hob
      dis := hFG5
      ng := ⟨fun hf => by have := hF5 _ hf; omega, fun hf => by have := hG _ hf; omega⟩
      nh := ⟨fun hf => by have := (hC5.foot _ hf).2; omega, fun hf => by have := (hD5.foot _ hf).2; omega⟩
      gh := by omega
      row := (hR5.below hb6).below hob
      rowC := hRC
      ref := (hr5.below hb6).below hob
      off := fun k hk => by
        have := hlo k hk
        exact ⟨fun hf => by have := hF5 _ hf; omega, this.1, by omega, by omega⟩ }
  have hhw : w.heap.size ≤ w6.heap.size := B6.size
  clear hob hRC hC5 hD5 hFG5 hF5 hb5 hb6 hR4 hR5 hr4 hr5 hD4 hlo B4 B5 B6 y0 y1 y2 y3 hs4 hs5 hgs hg2 hG hq5
  generalize hh : w6.heap.size = h at *
  generalize w6.alloc (.cells #[.int .i64 (C0.at_ : Int), .int .i64 C0.now, .int .u64 (C0.turn : Int), .int .u64 (C0.top : Int), .string ⟨C0.b.toArray⟩, .int .i64 C0.e] 53) = w7 at *
  clear hh
  go_loopw [12, 16] (fun x y wr => ∃ (k q : Nat) (D : Dk) (F G : Nat → Prop) (c : Ce) (a1 : Option Addr) (c1 : Nat) (a2 : Option Addr) (c2 : Nat), k ≤ n ∧ x = .pointer (some ⟨q, 0, none⟩) ∧ y = .int .i64 k ∧ Pc wr w1.heap.size q p g h F G c c D D a1 c1 a2 c2 ∧ CI at_ c ∧ D.l.length = N0 ∧ D.waits.length ≤ k ∧ Below w.heap.size w wr) (fun _ y _ => n - (intOf y).toNat)
  case atStart => exact ⟨0, q, D0, F, G, C0, a1, c1, a2, c2, by omega, rfl, rfl, hP, hci, HFN.out, by rw [HFL.out]; exact Nat.le_refl _, B7⟩
  case round =>
    clear hP B7 hci
    obtain ⟨k, q, D, F, G, c, a1, c1, a2, c2, hk, rfl, rfl, P, hCI, hDn, hwk, hB⟩ := hrel
    by_cases hlt : k < n
    case neg =>
      have hki : ¬ (k : Int) < (n : Int) := by omega
      go_wp2_with fail
      go_ret
      exact ⟨rfl, hB⟩
    have hki : (k : Int) < (n : Int) := by omega
    by_cases hk30 : k < 30
    case neg =>
      have hk30i : ¬ (k : Int) < 30 := by omega
      go_wp2_with fail
      go_ret
      exact ⟨rfl, hB⟩
    have hk30i : (k : Int) < 30 := by omega
    obtain ⟨b, o, K, N, z, a', n', c'', bs, rfl, q0w, q1w, q2w, q3w, wK, wN, wz, hbs0⟩ := hacts k hlt
    have hbl := NB.RdB.size hbs0
    have hbb := Rd.bound hbs0
    have q0 := (Below.cell hB (World.block_lt_of_cell? _ _ q0w)).trans q0w
    have q1 := (Below.cell hB (World.block_lt_of_cell? _ _ q1w)).trans q1w
    have q2 := (Below.cell hB (World.block_lt_of_cell? _ _ q2w)).trans q2w
    have q3 := (Below.cell hB (World.block_lt_of_cell? _ _ q3w)).trans q3w
    clear q0w q1w q2w q3w
    by_cases h60 : 60 < n'
    · have h60i : (60 : Int) < (n' : Int) := by omega
      go_wp2_with fail
      go_ret
      exact ⟨rfl, hB.alloc hB.size _⟩
    have h60i : ¬ (60 : Int) < (n' : Int) := by omega
    have hzb := bounds_u64 wz
    obtain ⟨Z, rfl⟩ := Int.eq_ofNat_of_zero_le (show 0 ≤ z by omega)
    obtain ⟨kv, hkv⟩ : ∃ kv, bits .and .i64 K 7 = kv := ⟨_, rfl⟩
    clear hacts
    by_cases hA0 : kv = 0
    · subst hA0
      refine clp_A0 w w1 wr p g h N0 at_ n c0 b o hN1 hN8 hat2 hbase hgw hhw hbd hnc k q D F G c a1 c1 a2 c2 hlt hk30 P hCI hDn hwk hB K N Z a' n' c'' bs q0 q1 q2 q3 hzb hbs0 h60 hkv _ _ _ _ _ _ _ _ _ _ _ _ _ _ _ _ _ _ _ _ _ _ _ _ _ _ _ _ _ _ _ _ _ _ _ _ _ _ _ _ _ _ _ _ _ _ _ _ _ _ _ _ _ _ _ _ _ _ _ _ _ _ _ _ _ _ _ _ _ _ _ _ _ _ _ _ _ _ _ _ _ _ _ _ _ _ _ _ _ _ _ _ _ _ _ _ _ _ _ _ _ _ _ _ _ _ _ _ _ _ _ _ _ _ _ _ _ _ _ _ _ _ _ _ _ _ _ _ _ _ _ _ _ _ _ _ _ _ _ _ _ _ _ _ _ _ _ _ _ _ _ _ _ _ _ _ _ _ _ _ _ _ _ _ _ _ _ _ _ _ _ _ _ _ _ _ _ _ _ _ _ _ _ _ _ _ _ _ _ _ _ _ _ _ _ _ _ ?_
      refine Go.Lib.hid ?_
      intro z6 z13 z15 z17 z18 z60 z61 z62 z63 z64 z65 z66 z67 z68 z69 z70 z71 z72 z73 z74 z75 z76 z77 z78 z79 z80 z81 z82 z83 z84 z85 z86 z87 z88 z89 z90 z91 z92 z93 z94 z95 z96 z97 z98 z99 z100 z101 z102 z103 z104 z105 z106 z107 z108 z109 z110 z111 z112 z113 z114 z115 z116 z117 z118 z119 z120 z121 z122 z123 z124 z125 z126 z127 z128 z129 z130 z131 z132 z133 z134 z135 z136 z137 z138 z139 z140 z141 z142 z143 z144 z145 z146 z147 z148 z149 z150 z151 z152 z153 z154 z155 z156 z157 z158 z159 z160 z161 z162 z163 z164 z165 z166 z167 z168 z169 z170 z171 z172 z173 z174 z175 z176 z177 z178 z179 z180 z181 z182 z183 z184 z185 z186 z187 z188 z189 z190 z191 z192 z193 z194 z195 z196 z197 z198 z199 z200 z201 q' D' F' G' c' a1' c1' a2' c2' v' hP' hCI' hDn' hwk' hB'
      exact ⟨⟨_, _, _, _, _, _, _, _, _, _, _, _, _, _, _, _, _, _, _, _, _, _, _, _, _, _, _, _, _, _, _, _, _, _, _, _, _, _, _, _, _, _, _, _, _, _, _, _, _, _, _, _, _, _, _, _, _, _, _, _, _, _, _, _, _, _, _, _, _, _, _, _, _, _, _, _, _, _, _, _, _, _, _, _, _, _, _, _, _, _, _, _, _, _, _, _, _, _, _, _, _, _, _, _, _, _, _, _, _, _, _, _, _, _, _, _, _, _, _, _, _, _, _, _, _, _, _, _, _, _, _, _, _, _, _, _, _, _, _, _, _, _, _, _, _, _, _, _, _, ⟨k + 1, q', D', F', G', c', a1', c1', a2', c2', by omega, rfl, by simp, hP', hCI', hDn', by omega, hB'⟩, rfl⟩, by simp [intOf]; omega⟩
    by_cases hA1 : kv = 1
    · subst hA1
      refine clp_A1 w w1 wr p g h N0 at_ n c0 b o hN1 hN8 hat2 hbase hgw hhw hbd hnc k q D F G c a1 c1 a2 c2 hlt hk30 P hCI hDn hwk hB K N Z a' n' c'' bs q0 q1 q2 q3 hzb hbs0 h60 hkv _ _ _ _ _ _ _ _ _ _ _ _ _ _ _ _ _ _ _ _ _ _ _ _ _ _ _ _ _ _ _ _ _ _ _ _ _ _ _ _ _ _ _ _ _ _ _ _ _ _ _ _ _ _ _ _ _ _ _ _ _ _ _ _ _ _ _ _ _ _ _ _ _ _ _ _ _ _ _ _ _ _ _ _ _ _ _ _ _ _ _ _ _ _ _ _ _ _ _ _ _ _ _ _ _ _ _ _ _ _ _ _ _ _ _ _ _ _ _ _ _ _ _ _ _ _ _ _ _ _ _ _ _ _ _ _ _ _ _ _ _ _ _ _ _ _ _ _ _ _ _ _ _ _ _ _ _ _ _ _ _ _ _ _ _ _ _ _ _ _ _ _ _ _ _ _ _ _ _ _ _ _ _ _ _ _ _ _ _ _ _ _ _ _ _ _ _ ?_
      refine Go.Lib.hid ?_
      intro z6 z13 z15 z17 z18 z60 z61 z62 z63 z64 z65 z66 z67 z68 z69 z70 z71 z72 z73 z74 z75 z76 z77 z78 z79 z80 z81 z82 z83 z84 z85 z86 z87 z88 z89 z90 z91 z92 z93 z94 z95 z96 z97 z98 z99 z100 z101 z102 z103 z104 z105 z106 z107 z108 z109 z110 z111 z112 z113 z114 z115 z116 z117 z118 z119 z120 z121 z122 z123 z124 z125 z126 z127 z128 z129 z130 z131 z132 z133 z134 z135 z136 z137 z138 z139 z140 z141 z142 z143 z144 z145 z146 z147 z148 z149 z150 z151 z152 z153 z154 z155 z156 z157 z158 z159 z160 z161 z162 z163 z164 z165 z166 z167 z168 z169 z170 z171 z172 z173 z174 z175 z176 z177 z178 z179 z180 z181 z182 z183 z184 z185 z186 z187 z188 z189 z190 z191 z192 z193 z194 z195 z196 z197 z198 z199 z200 z201 q' D' F' G' c' a1' c1' a2' c2' v' hP' hCI' hDn' hwk' hB'
      exact ⟨⟨_, _, _, _, _, _, _, _, _, _, _, _, _, _, _, _, _, _, _, _, _, _, _, _, _, _, _, _, _, _, _, _, _, _, _, _, _, _, _, _, _, _, _, _, _, _, _, _, _, _, _, _, _, _, _, _, _, _, _, _, _, _, _, _, _, _, _, _, _, _, _, _, _, _, _, _, _, _, _, _, _, _, _, _, _, _, _, _, _, _, _, _, _, _, _, _, _, _, _, _, _, _, _, _, _, _, _, _, _, _, _, _, _, _, _, _, _, _, _, _, _, _, _, _, _, _, _, _, _, _, _, _, _, _, _, _, _, _, _, _, _, _, _, _, _, _, _, _, _, ⟨k + 1, q', D', F', G', c', a1', c1', a2', c2', by omega, rfl, by simp, hP', hCI', hDn', by omega, hB'⟩, rfl⟩, by simp [intOf]; omega⟩
    by_cases hA2 : kv = 2
    · subst hA2
      refine clp_A2 w w1 wr p g h N0 at_ n c0 b o hN1 hN8 hat2 hbase hgw hhw hbd hnc k q D F G c a1 c1 a2 c2 hlt hk30 P hCI hDn hwk hB K N Z a' n' c'' bs q0 q1 q2 q3 hzb hbs0 h60 hkv _ _ _ _ _ _ _ _ _ _ _ _ _ _ _ _ _ _ _ _ _ _ _ _ _ _ _ _ _ _ _ _ _ _ _ _ _ _ _ _ _ _ _ _ _ _ _ _ _ _ _ _ _ _ _ _ _ _ _ _ _ _ _ _ _ _ _ _ _ _ _ _ _ _ _ _ _ _ _ _ _ _ _ _ _ _ _ _ _ _ _ _ _ _ _ _ _ _ _ _ _ _ _ _ _ _ _ _ _ _ _ _ _ _ _ _ _ _ _ _ _ _ _ _ _ _ _ _ _ _ _ _ _ _ _ _ _ _ _ _ _ _ _ _ _ _ _ _ _ _ _ _ _ _ _ _ _ _ _ _ _ _ _ _ _ _ _ _ _ _ _ _ _ _ _ _ _ _ _ _ _ _ _ _ _ _ _ _ _ _ _ _ _ _ _ _ _ ?_
      refine Go.Lib.hid ?_
      intro z6 z13 z15 z17 z18 z60 z61 z62 z63 z64 z65 z66 z67 z68 z69 z70 z71 z72 z73 z74 z75 z76 z77 z78 z79 z80 z81 z82 z83 z84 z85 z86 z87 z88 z89 z90 z91 z92 z93 z94 z95 z96 z97 z98 z99 z100 z101 z102 z103 z104 z105 z106 z107 z108 z109 z110 z111 z112 z113 z114 z115 z116 z117 z118 z119 z120 z121 z122 z123 z124 z125 z126 z127 z128 z129 z130 z131 z132 z133 z134 z135 z136 z137 z138 z139 z140 z141 z142 z143 z144 z145 z146 z147 z148 z149 z150 z151 z152 z153 z154 z155 z156 z157 z158 z159 z160 z161 z162 z163 z164 z165 z166 z167 z168 z169 z170 z171 z172 z173 z174 z175 z176 z177 z178 z179 z180 z181 z182 z183 z184 z185 z186 z187 z188 z189 z190 z191 z192 z193 z194 z195 z196 z197 z198 z199 z200 z201 q' D' F' G' c' a1' c1' a2' c2' v' hP' hCI' hDn' hwk' hB'
      exact ⟨⟨_, _, _, _, _, _, _, _, _, _, _, _, _, _, _, _, _, _, _, _, _, _, _, _, _, _, _, _, _, _, _, _, _, _, _, _, _, _, _, _, _, _, _, _, _, _, _, _, _, _, _, _, _, _, _, _, _, _, _, _, _, _, _, _, _, _, _, _, _, _, _, _, _, _, _, _, _, _, _, _, _, _, _, _, _, _, _, _, _, _, _, _, _, _, _, _, _, _, _, _, _, _, _, _, _, _, _, _, _, _, _, _, _, _, _, _, _, _, _, _, _, _, _, _, _, _, _, _, _, _, _, _, _, _, _, _, _, _, _, _, _, _, _, _, _, _, _, _, _, ⟨k + 1, q', D', F', G', c', a1', c1', a2', c2', by omega, rfl, by simp, hP', hCI', hDn', by omega, hB'⟩, rfl⟩, by simp [intOf]; omega⟩
    by_cases hA3 : kv = 3
    · subst hA3
      refine clp_A3 w w1 wr p g h N0 at_ n c0 b o hN1 hN8 hat2 hbase hgw hhw hbd hnc k q D F G c a1 c1 a2 c2 hlt hk30 P hCI hDn hwk hB K N Z a' n' c'' bs q0 q1 q2 q3 hzb hbs0 h60 hkv _ _ _ _ _ _ _ _ _ _ _ _ _ _ _ _ _ _ _ _ _ _ _ _ _ _ _ _ _ _ _ _ _ _ _ _ _ _ _ _ _ _ _ _ _ _ _ _ _ _ _ _ _ _ _ _ _ _ _ _ _ _ _ _ _ _ _ _ _ _ _ _ _ _ _ _ _ _ _ _ _ _ _ _ _ _ _ _ _ _ _ _ _ _ _ _ _ _ _ _ _ _ _ _ _ _ _ _ _ _ _ _ _ _ _ _ _ _ _ _ _ _ _ _ _ _ _ _ _ _ _ _ _ _ _ _ _ _ _ _ _ _ _ _ _ _ _ _ _ _ _ _ _ _ _ _ _ _ _ _ _ _ _ _ _ _ _ _ _ _ _ _ _ _ _ _ _ _ _ _ _ _ _ _ _ _ _ _ _ _ _ _ _ _ _ _ _ ?_
      refine Go.Lib.hid ?_
      intro z6 z13 z15 z17 z18 z60 z61 z62 z63 z64 z65 z66 z67 z68 z69 z70 z71 z72 z73 z74 z75 z76 z77 z78 z79 z80 z81 z82 z83 z84 z85 z86 z87 z88 z89 z90 z91 z92 z93 z94 z95 z96 z97 z98 z99 z100 z101 z102 z103 z104 z105 z106 z107 z108 z109 z110 z111 z112 z113 z114 z115 z116 z117 z118 z119 z120 z121 z122 z123 z124 z125 z126 z127 z128 z129 z130 z131 z132 z133 z134 z135 z136 z137 z138 z139 z140 z141 z142 z143 z144 z145 z146 z147 z148 z149 z150 z151 z152 z153 z154 z155 z156 z157 z158 z159 z160 z161 z162 z163 z164 z165 z166 z167 z168 z169 z170 z171 z172 z173 z174 z175 z176 z177 z178 z179 z180 z181 z182 z183 z184 z185 z186 z187 z188 z189 z190 z191 z192 z193 z194 z195 z196 z197 z198 z199 z200 z201 q' D' F' G' c' a1' c1' a2' c2' v' hP' hCI' hDn' hwk' hB'
      exact ⟨⟨_, _, _, _, _, _, _, _, _, _, _, _, _, _, _, _, _, _, _, _, _, _, _, _, _, _, _, _, _, _, _, _, _, _, _, _, _, _, _, _, _, _, _, _, _, _, _, _, _, _, _, _, _, _, _, _, _, _, _, _, _, _, _, _, _, _, _, _, _, _, _, _, _, _, _, _, _, _, _, _, _, _, _, _, _, _, _, _, _, _, _, _, _, _, _, _, _, _, _, _, _, _, _, _, _, _, _, _, _, _, _, _, _, _, _, _, _, _, _, _, _, _, _, _, _, _, _, _, _, _, _, _, _, _, _, _, _, _, _, _, _, _, _, _, _, _, _, _, _, ⟨k + 1, q', D', F', G', c', a1', c1', a2', c2', by omega, rfl, by simp, hP', hCI', hDn', by omega, hB'⟩, rfl⟩, by simp [intOf]; omega⟩
    by_cases hB4 : kv = 4
    · subst hB4
      refine clp_B w w1 wr p g h N0 at_ n c0 b o hN1 hN8 hat2 hbase hgw hhw hbd hnc k q D F G c a1 c1 a2 c2 hlt hk30 P hCI hDn hwk hB K N Z a' n' c'' bs q0 q1 q2 q3 hzb hbs0 h60 hkv _ _ _ _ _ _ _ _ _ _ _ _ _ _ _ _ _ _ _ _ _ _ _ _ _ _ _ _ _ _ _ _ _ _ _ _ _ _ _ _ _ _ _ _ _ _ _ _ _ _ _ _ _ _ _ _ _ _ _ _ _ _ _ _ _ _ _ _ _ _ _ _ _ _ _ _ _ _ _ _ _ _ _ _ _ _ _ _ _ _ _ _ _ _ _ _ _ _ _ _ _ _ _ _ _ _ _ _ _ _ _ _ _ _ _ _ _ _ _ _ _ _ _ _ _ _ _ _ _ _ _ _ _ _ _ _ _ _ _ _ _ _ _ _ _ _ _ _ _ _ _ _ _ _ _ _ _ _ _ _ _ _ _ _ _ _ _ _ _ _ _ _ _ _ _ _ _ _ _ _ _ _ _ _ _ _ _ _ _ _ _ _ _ _ _ _ _ ?_
      refine Go.Lib.hid ?_
      intro z6 z13 z15 z17 z18 z60 z61 z62 z63 z64 z65 z66 z67 z68 z69 z70 z71 z72 z73 z74 z75 z76 z77 z78 z79 z80 z81 z82 z83 z84 z85 z86 z87 z88 z89 z90 z91 z92 z93 z94 z95 z96 z97 z98 z99 z100 z101 z102 z103 z104 z105 z106 z107 z108 z109 z110 z111 z112 z113 z114 z115 z116 z117 z118 z119 z120 z121 z122 z123 z124 z125 z126 z127 z128 z129 z130 z131 z132 z133 z134 z135 z136 z137 z138 z139 z140 z141 z142 z143 z144 z145 z146 z147 z148 z149 z150 z151 z152 z153 z154 z155 z156 z157 z158 z159 z160 z161 z162 z163 z164 z165 z166 z167 z168 z169 z170 z171 z172 z173 z174 z175 z176 z177 z178 z179 z180 z181 z182 z183 z184 z185 z186 z187 z188 z189 z190 z191 z192 z193 z194 z195 z196 z197 z198 z199 z200 z201 q' D' F' G' c' a1' c1' a2' c2' v' hP' hCI' hDn' hwk' hB'
      exact ⟨⟨_, _, _, _, _, _, _, _, _, _, _, _, _, _, _, _, _, _, _, _, _, _, _, _, _, _, _, _, _, _, _, _, _, _, _, _, _, _, _, _, _, _, _, _, _, _, _, _, _, _, _, _, _, _, _, _, _, _, _, _, _, _, _, _, _, _, _, _, _, _, _, _, _, _, _, _, _, _, _, _, _, _, _, _, _, _, _, _, _, _, _, _, _, _, _, _, _, _, _, _, _, _, _, _, _, _, _, _, _, _, _, _, _, _, _, _, _, _, _, _, _, _, _, _, _, _, _, _, _, _, _, _, _, _, _, _, _, _, _, _, _, _, _, _, _, _, _, _, _, ⟨k + 1, q', D', F', G', c', a1', c1', a2', c2', by omega, rfl, by simp, hP', hCI', hDn', by omega, hB'⟩, rfl⟩, by simp [intOf]; omega⟩
    by_cases hC5 : kv = 5
    · subst hC5
      by_cases h44 : n' < 44
      · skip
        refine clp_Y w w1 wr p g h N0 at_ n c0 b o hN1 hN8 hat2 hbase hgw hhw hbd hnc k q D F G c a1 c1 a2 c2 hlt hk30 P hCI hDn hwk hB K N Z a' n' c'' bs q0 q1 q2 q3 hzb hbs0 h60 hkv h44 _ _ _ _ _ _ _ _ _ _ _ _ _ _ _ _ _ _ _ _ _ _ _ _ _ _ _ _ _ _ _ _ _ _ _ _ _ _ _ _ _ _ _ _ _ _ _ _ _ _ _ _ _ _ _ _ _ _ _ _ _ _ _ _ _ _ _ _ _ _ _ _ _ _ _ _ _ _ _ _ _ _ _ _ _ _ _ _ _ _ _ _ _ _ _ _ _ _ _ _ _ _ _ _ _ _ _ _ _ _ _ _ _ _ _ _ _ _ _ _ _ _ _ _ _ _ _ _ _ _ _ _ _ _ _ _ _ _ _ _ _ _ _ _ _ _ _ _ _ _ _ _ _ _ _ _ _ _ _ _ _ _ _ _ _ _ _ _ _ _ _ _ _ _ _ _ _ _ _ _ _ _ _ _ _ _ _ _ _ _ _ _ _ _ _ _ _ ?_
        refine Go.Lib.hid ?_
        intro z6 z13 z15 z17 z18 z60 z61 z62 z63 z64 z65 z66 z67 z68 z69 z70 z71 z72 z73 z74 z75 z76 z77 z78 z79 z80 z81 z82 z83 z84 z85 z86 z87 z88 z89 z90 z91 z92 z93 z94 z95 z96 z97 z98 z99 z100 z101 z102 z103 z104 z105 z106 z107 z108 z109 z110 z111 z112 z113 z114 z115 z116 z117 z118 z119 z120 z121 z122 z123 z124 z125 z126 z127 z128 z129 z130 z131 z132 z133 z134 z135 z136 z137 z138 z139 z140 z141 z142 z143 z144 z145 z146 z147 z148 z149 z150 z151 z152 z153 z154 z155 z156 z157 z158 z159 z160 z161 z162 z163 z164 z165 z166 z167 z168 z169 z170 z171 z172 z173 z174 z175 z176 z177 z178 z179 z180 z181 z182 z183 z184 z185 z186 z187 z188 z189 z190 z191 z192 z193 z194 z195 z196 z197 z198 z199 z200 z201 q' D' F' G' c' a1' c1' a2' c2' v' hP' hCI' hDn' hwk' hB'
        exact ⟨⟨_, _, _, _, _, _, _, _, _, _, _, _, _, _, _, _, _, _, _, _, _, _, _, _, _, _, _, _, _, _, _, _, _, _, _, _, _, _, _, _, _, _, _, _, _, _, _, _, _, _, _, _, _, _, _, _, _, _, _, _, _, _, _, _, _, _, _, _, _, _, _, _, _, _, _, _, _, _, _, _, _, _, _, _, _, _, _, _, _, _, _, _, _, _, _, _, _, _, _, _, _, _, _, _, _, _, _, _, _, _, _, _, _, _, _, _, _, _, _, _, _, _, _, _, _, _, _, _, _, _, _, _, _, _, _, _, _, _, _, _, _, _, _, _, _, _, _, _, _, ⟨k + 1, q', D', F', G', c', a1', c1', a2', c2', by omega, rfl, by simp, hP', hCI', hDn', by omega, hB'⟩, rfl⟩, by simp [intOf]; omega⟩
      refine clp_N w w1 wr p g h N0 at_ n c0 b o hN1 hN8 hat2 hbase hgw hhw hbd hnc k q D F G c a1 c1 a2 c2 hlt hk30 P hCI hDn hwk hB K N Z a' n' c'' bs q0 q1 q2 q3 hzb hbs0 h60 hkv h44 _ _ _ _ _ _ _ _ _ _ _ _ _ _ _ _ _ _ _ _ _ _ _ _ _ _ _ _ _ _ _ _ _ _ _ _ _ _ _ _ _ _ _ _ _ _ _ _ _ _ _ _ _ _ _ _ _ _ _ _ _ _ _ _ _ _ _ _ _ _ _ _ _ _ _ _ _ _ _ _ _ _ _ _ _ _ _ _ _ _ _ _ _ _ _ _ _ _ _ _ _ _ _ _ _ _ _ _ _ _ _ _ _ _ _ _ _ _ _ _ _ _ _ _ _ _ _ _ _ _ _ _ _ _ _ _ _ _ _ _ _ _ _ _ _ _ _ _ _ _ _ _ _ _ _ _ _ _ _ _ _ _ _ _ _ _ _ _ _ _ _ _ _ _ _ _ _ _ _ _ _ _ _ _ _ _ _ _ _ _ _ _ _ _ _ _ _ ?_
      refine Go.Lib.hid ?_
      intro z6 z13 z15 z17 z18 z60 z61 z62 z63 z64 z65 z66 z67 z68 z69 z70 z71 z72 z73 z74 z75 z76 z77 z78 z79 z80 z81 z82 z83 z84 z85 z86 z87 z88 z89 z90 z91 z92 z93 z94 z95 z96 z97 z98 z99 z100 z101 z102 z103 z104 z105 z106 z107 z108 z109 z110 z111 z112 z113 z114 z115 z116 z117 z118 z119 z120 z121 z122 z123 z124 z125 z126 z127 z128 z129 z130 z131 z132 z133 z134 z135 z136 z137 z138 z139 z140 z141 z142 z143 z144 z145 z146 z147 z148 z149 z150 z151 z152 z153 z154 z155 z156 z157 z158 z159 z160 z161 z162 z163 z164 z165 z166 z167 z168 z169 z170 z171 z172 z173 z174 z175 z176 z177 z178 z179 z180 z181 z182 z183 z184 z185 z186 z187 z188 z189 z190 z191 z192 z193 z194 z195 z196 z197 z198 z199 z200 z201 q' D' F' G' c' a1' c1' a2' c2' v' hP' hCI' hDn' hwk' hB'
      exact ⟨⟨_, _, _, _, _, _, _, _, _, _, _, _, _, _, _, _, _, _, _, _, _, _, _, _, _, _, _, _, _, _, _, _, _, _, _, _, _, _, _, _, _, _, _, _, _, _, _, _, _, _, _, _, _, _, _, _, _, _, _, _, _, _, _, _, _, _, _, _, _, _, _, _, _, _, _, _, _, _, _, _, _, _, _, _, _, _, _, _, _, _, _, _, _, _, _, _, _, _, _, _, _, _, _, _, _, _, _, _, _, _, _, _, _, _, _, _, _, _, _, _, _, _, _, _, _, _, _, _, _, _, _, _, _, _, _, _, _, _, _, _, _, _, _, _, _, _, _, _, _, ⟨k + 1, q', D', F', G', c', a1', c1', a2', c2', by omega, rfl, by simp, hP', hCI', hDn', by omega, hB'⟩, rfl⟩, by simp [intOf]; omega⟩
    have e0 : (kv == 0) = false := by simp; omega
    have e1 : (kv == 1) = false := by simp; omega
    have e2 : (kv == 2) = false := by simp; omega
    have e3 : (kv == 3) = false := by simp; omega
    have e4 : (kv == 4) = false := by simp; omega
    have e5 : (kv == 5) = false := by simp; omega
    refine clp_D w w1 wr p g h N0 at_ n c0 b o hN1 hN8 hat2 hbase hgw hhw hbd hnc k q D F G c a1 c1 a2 c2 hlt hk30 P hCI hDn hwk hB K N Z a' n' c'' bs q0 q1 q2 q3 hzb hbs0 h60 kv hkv e0 e1 e2 e3 e4 e5 _ _ _ _ _ _ _ _ _ _ _ _ _ _ _ _ _ _ _ _ _ _ _ _ _ _ _ _ _ _ _ _ _ _ _ _ _ _ _ _ _ _ _ _ _ _ _ _ _ _ _ _ _ _ _ _ _ _ _ _ _ _ _ _ _ _ _ _ _ _ _ _ _ _ _ _ _ _ _ _ _ _ _ _ _ _ _ _ _ _ _ _ _ _ _ _ _ _ _ _ _ _ _ _ _ _ _ _ _ _ _ _ _ _ _ _ _ _ _ _ _ _ _ _ _ _ _ _ _ _ _ _ _ _ _ _ _ _ _ _ _ _ _ _ _ _ _ _ _ _ _ _ _ _ _ _ _ _ _ _ _ _ _ _ _ _ _ _ _ _ _ _ _ _ _ _ _ _ _ _ _ _ _ _ _ _ _ _ _ _ _ _ _ _ _ _ _ ?_
    refine Go.Lib.hid ?_
    intro z6 z13 z15 z17 z18 z60 z61 z62 z63 z64 z65 z66 z67 z68 z69 z70 z71 z72 z73 z74 z75 z76 z77 z78 z79 z80 z81 z82 z83 z84 z85 z86 z87 z88 z89 z90 z91 z92 z93 z94 z95 z96 z97 z98 z99 z100 z101 z102 z103 z104 z105 z106 z107 z108 z109 z110 z111 z112 z113 z114 z115 z116 z117 z118 z119 z120 z121 z122 z123 z124 z125 z126 z127 z128 z129 z130 z131 z132 z133 z134 z135 z136 z137 z138 z139 z140 z141 z142 z143 z144 z145 z146 z147 z148 z149 z150 z151 z152 z153 z154 z155 z156 z157 z158 z159 z160 z161 z162 z163 z164 z165 z166 z167 z168 z169 z170 z171 z172 z173 z174 z175 z176 z177 z178 z179 z180 z181 z182 z183 z184 z185 z186 z187 z188 z189 z190 z191 z192 z193 z194 z195 z196 z197 z198 z199 z200 z201 q' D' F' G' c' a1' c1' a2' c2' v' hP' hCI' hDn' hwk' hB'
    exact ⟨⟨_, _, _, _, _, _, _, _, _, _, _, _, _, _, _, _, _, _, _, _, _, _, _, _, _, _, _, _, _, _, _, _, _, _, _, _, _, _, _, _, _, _, _, _, _, _, _, _, _, _, _, _, _, _, _, _, _, _, _, _, _, _, _, _, _, _, _, _, _, _, _, _, _, _, _, _, _, _, _, _, _, _, _, _, _, _, _, _, _, _, _, _, _, _, _, _, _, _, _, _, _, _, _, _, _, _, _, _, _, _, _, _, _, _, _, _, _, _, _, _, _, _, _, _, _, _, _, _, _, _, _, _, _, _, _, _, _, _, _, _, _, _, _, _, _, _, _, _, _, ⟨k + 1, q', D', F', G', c', a1', c1', a2', c2', by omega, rfl, by simp, hP', hCI', hDn', by omega, hB'⟩, rfl⟩, by simp [intOf]; omega⟩
end Go.Proofs.Ytcdapjfaekamkaa
