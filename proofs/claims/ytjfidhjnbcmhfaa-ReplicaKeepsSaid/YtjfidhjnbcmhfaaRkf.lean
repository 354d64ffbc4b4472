/- The round of ReplicaKeeps, walked. -/
import Derived.Test.YtjfidhjnbcmhfaaRkx
import Derived.Deep.CutRange
namespace Go.Proofs.Ytjfidhjnbcmhfaa
open Go.RowKit
open Go.NB.Crc
open Go.NB (Rd RdU Dk Kp Stp Off Dis val I64 Rw oneB dB rw_new B64 Ent dknown dat dhit)

def firstLoop : Code → Option Code
  | .loop c => some c
  | .seq a b => match firstLoop a with
    | some c => some c
    | none => firstLoop b
  | .block _ c => firstLoop c
  | .scope c => firstLoop c
  | .cond _ a b => match firstLoop a with
    | some c => some c
    | none => firstLoop b
  | _ => none
noncomputable def rkBody : Code := (((Try.f5).body.bind firstLoop).getD .skip)
abbrev rkX (g f : Nat) : Nat → Prop := fun k => k = g ∨ k = f
set_option maxRecDepth 100000 in
set_option maxHeartbeats 32000000 in
theorem rke_round (w wr : World) (p g f n c n1 c1 n2 c2 n3 c3 b0 o0 b1 o1 b2 o2 b3 o3 : Nat) (hgg : g ≠ f) (hxl : ∀ k : Nat, k = g ∨ k = f → w.heap.size ≤ k) (hbd : n ≤ 9223372036854775807 ∧ c ≤ 9223372036854775807) (hbd1 : n1 ≤ 9223372036854775807 ∧ c1 ≤ 9223372036854775807) (hbd2 : n2 ≤ 9223372036854775807 ∧ c2 ≤ 9223372036854775807) (hbd3 : n3 ≤ 9223372036854775807 ∧ c3 ≤ 9223372036854775807)
    (m r top : Nat) (A : List Nat) (B : List (List UInt8)) (E : List En) (D : Dk) (R : Rp) (hmn : m < n) (e0 : ¬ 16 < n) (e1 : ¬ n1 < n) (e2 : ¬ n2 < n) (e3 : ¬ n3 < n) (hR : HasRp (rkX g f) w wr r p D R) (RA : Rw wr g (intsK A) 3) (RB : Rw wr f (strsK B) 9) (hK : Kst m m E D R) (hT : Tab E A B top)
    (y0' y2' : UInt8) (ai : Option Addr) (ni ci : Nat) (t : List UInt8) (ap : Option Addr) (np cp : Nat) (pk : List UInt8)
    (q0w : w.cell? ⟨b0, o0 + m, none⟩ = some (.int .u8 (y0'.toNat : Int))) (q1w : w.cell? ⟨b1, o1 + m, none⟩ = some (.slice ai ni ci)) (hri0 : NB.RdB w ai ni ci t) (q2w : w.cell? ⟨b2, o2 + m, none⟩ = some (.int .u8 (y2'.toNat : Int))) (q3w : w.cell? ⟨b3, o3 + m, none⟩ = some (.slice ap np cp)) (hrp0 : NB.RdB w ap np cp pk) (hl60 : ¬ 60 < ni) (hl9 : ¬ 9 < np)
    (k s : Nat) (hk : k < 16) (hky : bits .and .u8 (y0'.toNat : Int) 15 = (k : Int)) (hs : s < 8) (hsy : bits .and .u8 (y2'.toNat : Int) 7 = (s : Int)) (e8 : Bool) (he8 : (bits .and .u8 (y2'.toNat : Int) 8 == 8) = e8)
    (y4 y5 y6 y7 y9 y11 y32 y33 y34 y35 y36 y37 y38 y39 y40 y41 y42 y43 y44 y45 y46 y47 y48 y49 y50 y51 y52 y53 y54 y55 y56 y57 y58 y59 y60 y61 y62 y63 y64 y65 y66 y67 y68 y69 y70 y71 : Value) (x8 x18 x19 x20 x21 x22 x23 x24 x25 x26 x27 x28 x29 x30 x31 x72 x73 x74 x75 x76 x77 x78 x79 x80 x81 x82 x83 x84 x85 x86 x87 x88 x89 x90 x91 x92 x93 x94 x95 x96 x97 x98 x99 x100 x101 x102 x103 x104 x105 x106 x107 x108 x109 x110 x111 x112 x113 x114 x115 x116 x117 x118 x119 x120 x121 x122 x123 x124 x125 x126 x127 x128 x129 x130 x131 x132 x133 x134 x135 x136 x137 x138 x139 x140 x141 x142 x143 x144 x145 x146 x147 x148 x149 x150 x151 x152 x153 x154 x155 x156 x157 x158 x159 x160 x161 x162 x163 x164 x165 x166 x167 x168 x169 x170 x171 x172 x173 x174 x175 x176 x177 x178 x179 x180 x181 x182 x183 x184 x185 x186 x187 x188 x189 x190 x191 x192 x193 x194 x195 x196 x197 x198 x199 x200 x201 x202 x203 x204 x205 x206 x207 x208 x209 x210 x211 x212 x213 x214 x215 x216 x217 x218 x219 x220 x221 x222 x223 x224 x225 x226 x227 x228 x229 x230 x231 x232 x233 x234 x235 x236 x237 x238 x239 x240 x241 x242 x243 x244 x245 x246 x247 x248 x249 x250 x251 x252 x253 x254 x255 x256 x257 x258 x259 x260 x261 x262 x263 x264 x265 x266 x267 x268 x269 x270 x271 x272 x273 x274 x275 x276 x277 x278 x279 x280 x281 x282 x283 x284 x285 x286 x287 x288 x289 x290 x291 x292 x293 x294 x295 x296 : Value) (KK : Act → World → Prop) (QQ : Exit → Act → World → Prop)
    (HEND : Hid (∀ (z8 z18 z19 z20 z21 z22 z23 z24 z25 z26 z27 z28 z29 z30 z31 z72 z73 z74 z75 z76 z77 z78 z79 z80 z81 z82 z83 z84 z85 z86 z87 z88 z89 z90 z91 z92 z93 z94 z95 z96 z97 z98 z99 z100 z101 z102 z103 z104 z105 z106 z107 z108 z109 z110 z111 z112 z113 z114 z115 z116 z117 z118 z119 z120 z121 z122 z123 z124 z125 z126 z127 z128 z129 z130 z131 z132 z133 z134 z135 z136 z137 z138 z139 z140 z141 z142 z143 z144 z145 z146 z147 z148 z149 z150 z151 z152 z153 z154 z155 z156 z157 z158 z159 z160 z161 z162 z163 z164 z165 z166 z167 z168 z169 z170 z171 z172 z173 z174 z175 z176 z177 z178 z179 z180 z181 z182 z183 z184 z185 z186 z187 z188 z189 z190 z191 z192 z193 z194 z195 z196 z197 z198 z199 z200 z201 z202 z203 z204 z205 z206 z207 z208 z209 z210 z211 z212 z213 z214 z215 z216 z217 z218 z219 z220 z221 z222 z223 z224 z225 z226 z227 z228 z229 z230 z231 z232 z233 z234 z235 z236 z237 z238 z239 z240 z241 z242 z243 z244 z245 z246 z247 z248 z249 z250 z251 z252 z253 z254 z255 z256 z257 z258 z259 z260 z261 z262 z263 z264 z265 z266 z267 z268 z269 z270 z271 z272 z273 z274 z275 z276 z277 z278 z279 z280 z281 z282 z283 z284 z285 z286 z287 z288 z289 z290 z291 z292 z293 z294 z295 z296 : Value) (r top : Nat) (A : List Nat) (B : List (List UInt8)) (E : List En) (D : Dk) (R : Rp) (v : World), HasRp (rkX g f) w v r p D R → Rw v g (intsK A) 3 → Rw v f (strsK B) 9 → Kst (m + 1) (m + 1) E D R → Tab E A B top → KK ⟨#[.slice (some ⟨b0, o0, none⟩) n c, .slice (some ⟨b1, o1, none⟩) n1 c1, .slice (some ⟨b2, o2, none⟩) n2 c2, .slice (some ⟨b3, o3, none⟩) n3 c3, y4, y5, y6, y7, z8, y9, .pointer (some ⟨p, 0, none⟩), y11, .pointer (some ⟨r, 0, none⟩), .int .i64 0, .slice (some ⟨g, 0, none⟩) 16 16, .slice (some ⟨f, 0, none⟩) 16 16, .int .i64 (top : Int), .int .i64 ((m : Int) + 1), z18, z19, z20, z21, z22, z23, z24, z25, z26, z27, z28, z29, z30, z31, y32, y33, y34, y35, y36, y37, y38, y39, y40, y41, y42, y43, y44, y45, y46, y47, y48, y49, y50, y51, y52, y53, y54, y55, y56, y57, y58, y59, y60, y61, y62, y63, y64, y65, y66, y67, y68, y69, y70, y71, z72, z73, z74, z75, z76, z77, z78, z79, z80, z81, z82, z83, z84, z85, z86, z87, z88, z89, z90, z91, z92, z93, z94, z95, z96, z97, z98, z99, z100, z101, z102, z103, z104, z105, z106, z107, z108, z109, z110, z111, z112, z113, z114, z115, z116, z117, z118, z119, z120, z121, z122, z123, z124, z125, z126, z127, z128, z129, z130, z131, z132, z133, z134, z135, z136, z137, z138, z139, z140, z141, z142, z143, z144, z145, z146, z147, z148, z149, z150, z151, z152, z153, z154, z155, z156, z157, z158, z159, z160, z161, z162, z163, z164, z165, z166, z167, z168, z169, z170, z171, z172, z173, z174, z175, z176, z177, z178, z179, z180, z181, z182, z183, z184, z185, z186, z187, z188, z189, z190, z191, z192, z193, z194, z195, z196, z197, z198, z199, z200, z201, z202, z203, z204, z205, z206, z207, z208, z209, z210, z211, z212, z213, z214, z215, z216, z217, z218, z219, z220, z221, z222, z223, z224, z225, z226, z227, z228, z229, z230, z231, z232, z233, z234, z235, z236, z237, z238, z239, z240, z241, z242, z243, z244, z245, z246, z247, z248, z249, z250, z251, z252, z253, z254, z255, z256, z257, z258, z259, z260, z261, z262, z263, z264, z265, z266, z267, z268, z269, z270, z271, z272, z273, z274, z275, z276, z277, z278, z279, z280, z281, z282, z283, z284, z285, z286, z287, z288, z289, z290, z291, z292, z293, z294, z295, z296], []⟩ v)) :
    Code.wp Try.prog rkBody (Exit.then KK QQ) ⟨#[.slice (some ⟨b0, o0, none⟩) n c, .slice (some ⟨b1, o1, none⟩) n1 c1, .slice (some ⟨b2, o2, none⟩) n2 c2, .slice (some ⟨b3, o3, none⟩) n3 c3, y4, y5, y6, y7, x8, y9, .pointer (some ⟨p, 0, none⟩), y11, .pointer (some ⟨r, 0, none⟩), .int .i64 0, .slice (some ⟨g, 0, none⟩) 16 16, .slice (some ⟨f, 0, none⟩) 16 16, .int .i64 (top : Int), .int .i64 ((m : Int)), x18, x19, x20, x21, x22, x23, x24, x25, x26, x27, x28, x29, x30, x31, y32, y33, y34, y35, y36, y37, y38, y39, y40, y41, y42, y43, y44, y45, y46, y47, y48, y49, y50, y51, y52, y53, y54, y55, y56, y57, y58, y59, y60, y61, y62, y63, y64, y65, y66, y67, y68, y69, y70, y71, x72, x73, x74, x75, x76, x77, x78, x79, x80, x81, x82, x83, x84, x85, x86, x87, x88, x89, x90, x91, x92, x93, x94, x95, x96, x97, x98, x99, x100, x101, x102, x103, x104, x105, x106, x107, x108, x109, x110, x111, x112, x113, x114, x115, x116, x117, x118, x119, x120, x121, x122, x123, x124, x125, x126, x127, x128, x129, x130, x131, x132, x133, x134, x135, x136, x137, x138, x139, x140, x141, x142, x143, x144, x145, x146, x147, x148, x149, x150, x151, x152, x153, x154, x155, x156, x157, x158, x159, x160, x161, x162, x163, x164, x165, x166, x167, x168, x169, x170, x171, x172, x173, x174, x175, x176, x177, x178, x179, x180, x181, x182, x183, x184, x185, x186, x187, x188, x189, x190, x191, x192, x193, x194, x195, x196, x197, x198, x199, x200, x201, x202, x203, x204, x205, x206, x207, x208, x209, x210, x211, x212, x213, x214, x215, x216, x217, x218, x219, x220, x221, x222, x223, x224, x225, x226, x227, x228, x229, x230, x231, x232, x233, x234, x235, x236, x237, x238, x239, x240, x241, x242, x243, x244, x245, x246, x247, x248, x249, x250, x251, x252, x253, x254, x255, x256, x257, x258, x259, x260, x261, x262, x263, x264, x265, x266, x267, x268, x269, x270, x271, x272, x273, x274, x275, x276, x277, x278, x279, x280, x281, x282, x283, x284, x285, x286, x287, x288, x289, x290, x291, x292, x293, x294, x295, x296], []⟩ wr := by
  conv => arg 2; whnf
  obtain ⟨tb, htb, hzb, hsb, hbb⟩ := slKB.hi
  have HBB := Go.Lib.hid hbb
  clear hbb
  have hlow := rq_low hR
  have hEl := hK.len
  have htp := hT.top
  have HK := Go.Lib.hid hK
  have HT := Go.Lib.hid hT
  clear hK hT
  have hmi : (m : Int) < (n : Int) := by omega
  have hsi := NB.RdB.size hri0
  have hbi := Rd.bound hri0
  have hbp := Rd.bound hrp0
  have q0 := (Below.cell hlow (World.block_lt_of_cell? _ _ q0w)).trans q0w
  have q1 := (Below.cell hlow (World.block_lt_of_cell? _ _ q1w)).trans q1w
  have q2 := (Below.cell hlow (World.block_lt_of_cell? _ _ q2w)).trans q2w
  have q3 := (Below.cell hlow (World.block_lt_of_cell? _ _ q3w)).trans q3w
  have HSI := Go.Lib.hid hsi
  clear hsi
  have hl60i : ¬ (60 : Int) < (ni : Int) := by omega
  have hl9i : ¬ (9 : Int) < (np : Int) := by omega
  have hn16 : n ≤ 16 := by omega
  have hXG : rkX g f g := .inl rfl
  have hXF : rkX g f f := .inr rfl
  have HXG := Go.Lib.hid hXG
  have HXF := Go.Lib.hid hXF
  have HXL := Go.Lib.hid hxl
  have HGG := Go.Lib.hid hgg
  clear hXG hXF hxl hgg
  go_upto_if 102 with (fail)
  go_cut [] from 72 to 296 (fun wx => ∃ (D : Dk), HasRp (rkX g f) w wx r p D R ∧ Rw wx g (intsK A) 3 ∧ Rw wx f (strsK B) 9 ∧ Kst m m E D R)
  case first => as_aux_lemma =>
    by_cases hs3 : s < 3
    · have hs3i : (s : Int) < 3 := by omega
      have hst := rpstop_any hR (s : Int) (by omega)
      have HST := Go.Lib.hid hst
      clear hst
      go_wp2_with fail
      go_at_call 16
      refine HST.out.mono ?_
      rintro e w6 ⟨rfl, hR6, K6⟩
      have RA6 := RA.keep K6 (fun hn => hn HXG.out)
      have RB6 := RB.keep K6 (fun hn => hn HXF.out)
      go_wp2_with fail
      go_meet
      exact ⟨_, hR6, RA6, RB6, HK.out.stop _⟩
    · have hs3i : ¬ (s : Int) < 3 := by omega
      go_wp2_with fail
      go_meet
      exact ⟨D, hR, RA, RB, HK.out⟩
  case rest =>
    clear hR RA RB HK q0 q1 q2 q3 hlow
    obtain ⟨D, hR, RA, RB, hK⟩ := hcut
    have hlow := rq_low hR
    have HK := Go.Lib.hid hK
    clear hK
    have q1 := (Below.cell hlow (World.block_lt_of_cell? _ _ q1w)).trans q1w
    go_upto_region 21 with (fail)
    go_cut [19, 20, 21] from 72 to 296 (fun x y z wx => ∃ (D : Dk) (R : Rp) (t : List En) (fr : Bool) (j : Nat) (ec : Int), x = .int .i64 (j : Int) ∧ y = .bool fr ∧ z = .int .i64 ec ∧ HasRp (rkX g f) w wx r p D R ∧ Rw wx g (intsK A) 3 ∧ Rw wx f (strsK B) 9 ∧ CrR m (m + 1) (E ++ t) D ∧ (ec = 0 ∧ Kst m (m + 1) (E ++ t) D R ∧ j < (E ++ t).length ∧ ((E ++ t).getD j zEn).2.1 = k ∧ (fr = true → j = E.length) ∨ ec = 20))
    case first => as_aux_lemma =>
      have hwk : IntKind.u64.wrap (k : Int) = (k : Int) := IntWalk.u64_in _ ⟨by omega, by omega⟩
      have hri := Rd.below hri0 hlow
      have hw0 : D.waits = [] := HK.out.calm.waits
      have hx : (3, k, t).1 = 3 ∧ (3, k, t).2.1 < 16 ∧ (3, k, t).2.2.length ≤ 60 := ⟨rfl, hk, by show t.length ≤ 60; have := HSI.out; omega⟩
      have had := rpad_go hR HK.out.calm.full 3 k (show B64 3 by decide) (show B64 k by unfold B64; omega) ai ni ci t hri HK.out.calm.e (by rw [hw0]; exact Nat.zero_le _) (by have := HK.out.calm.llen R.own; omega) (by rw [HK.out.tab, tab_len]; omega) (fun b => by have h9 := app_w D (R.seg R.own) b; rw [hw0] at h9; simp at h9; omega)
      have hm100 : m ≤ 100 := by omega
      by_cases hkn : dknown R.tab 3 k = true
      · obtain ⟨j, hj1, hj2, hj3⟩ := HK.out.known (x := (3, k, t)) hx hkn
        rw [hj2] at had
        have HAD := Go.Lib.hid had
        have hfin : CrR m (m + 1) (E ++ []) D ∧ Kst m (m + 1) (E ++ []) D R ∧ j < (E ++ []).length ∧ ((E ++ []).getD j zEn).2.1 = k := by
          rw [List.append_nil]
          exact ⟨(HK.out.more (Nat.le_refl _) (Nat.le_succ _)).crr hm100, HK.out.more (Nat.le_refl _) (Nat.le_succ _), hj1, hj3⟩
        have HFIN := Go.Lib.hid hfin
        clear had hj1 hj2 hj3 hkn hx hfin hw0
        go_wp2_with fail
        go_at_call 14
        refine HAD.out.mono ?_
        rintro e w6 ⟨rfl, hR6, K6⟩
        have RA6 := RA.keep K6 (fun hn => hn HXG.out)
        have RB6 := RB.keep K6 (fun hn => hn HXF.out)
        simp only
        go_wp2_with fail
        go_meet
        exact ⟨D, R, [], false, j, 0, rfl, rfl, rfl, hR6, RA6, RB6, HFIN.out.1, .inl ⟨rfl, HFIN.out.2.1, HFIN.out.2.2.1, HFIN.out.2.2.2, fun h => by cases h⟩⟩
      · have hkf : dknown R.tab (3, k, t).1 (3, k, t).2.1 = false := by simpa using hkn
        rcases HK.out.new hm100 (by omega) hx hkf with ⟨D', R', h1, h2⟩ | ⟨D', R', h1, h2⟩
        · rw [h1] at had
          have HAD := Go.Lib.hid had
          have hfin : CrR m (m + 1) (E ++ [(3, k, t)]) D' ∧ E.length < (E ++ [(3, k, t)]).length ∧ ((E ++ [(3, k, t)]).getD E.length zEn).2.1 = k := by
            refine ⟨h2.crr hm100, by simp, ?_⟩
            rw [List.getD_eq_getElem?_getD, List.getElem?_append_right (Nat.le_refl _), Nat.sub_self]; rfl
          have HFIN := Go.Lib.hid hfin
          have H2 := Go.Lib.hid h2
          clear had h1 h2 hkn hkf hx hfin hw0
          go_wp2_with fail
          go_at_call 14
          refine HAD.out.mono ?_
          rintro e w6 ⟨rfl, hR6, K6⟩
          have RA6 := RA.keep K6 (fun hn => hn HXG.out)
          have RB6 := RB.keep K6 (fun hn => hn HXF.out)
          simp only
          go_wp2_with fail
          go_meet
          exact ⟨D', R', [(3, k, t)], true, E.length, 0, rfl, rfl, rfl, hR6, RA6, RB6, HFIN.out.1, .inl ⟨rfl, H2.out, HFIN.out.2.1, HFIN.out.2.2, fun _ => rfl⟩⟩
        · rw [h1] at had
          have HAD := Go.Lib.hid had
          have hfin : CrR m (m + 1) (E ++ []) D' := by rw [List.append_nil]; exact h2
          have HFIN := Go.Lib.hid hfin
          clear had h1 h2 hkn hkf hx hfin hw0
          go_wp2_with fail
          go_at_call 14
          refine HAD.out.mono ?_
          rintro e w6 ⟨rfl, hR6, K6⟩
          have RA6 := RA.keep K6 (fun hn => hn HXG.out)
          have RB6 := RB.keep K6 (fun hn => hn HXF.out)
          simp only
          go_wp2_with fail
          go_meet
          exact ⟨D', R', [], false, 0, 20, rfl, rfl, rfl, hR6, RA6, RB6, HFIN.out, .inr rfl⟩
    case rest =>
      clear hR RA RB HK q1 hlow
      obtain ⟨D', R', te, fr, j, ec, rfl, rfl, rfl, hR, RA, RB, hC, hF⟩ := hcut
      have hlow := rq_low hR
      have HC := Go.Lib.hid hC
      have HF := Go.Lib.hid hF
      clear hC hF
      have hA16 : A.length = 16 := HT.out.al
      have hki : (k : Int) < 16 := by omega
      go_upto_if 125 with (fail)
      go_cut [16] from 72 to 296 (fun tv wx => ∃ (top' : Nat) (A' : List Nat) (B' : List (List UInt8)), tv = .int .i64 (top' : Int) ∧ HasRp (rkX g f) w wx r p D' R' ∧ Rw wx g (intsK A') 3 ∧ Rw wx f (strsK B') 9 ∧ Tab (E ++ te) A' B' top')
      case first => as_aux_lemma =>
        have r4 := RA.cell k _ (intsK_at A k (by omega))
        have f4 := RA.free k
        rcases HF.out with ⟨rfl, hK, hj, hjk, hfr⟩ | rfl
        case inr =>
          go_wp2_with fail
          go_meet
          exact ⟨top, A, B, rfl, hR, RA, RB, HT.out.more te⟩
        clear HF
        have HTE := Go.Lib.hid (HT.out.more te)
        have htl := HTE.out.top
        have hjN : j ≤ 17 := by have := hK.len; omega
        by_cases hT0 : 0 < A.getD k 0
        · have hAT : A.getD k 0 = j + 1 ∧ fr = false := by
            obtain ⟨h1, h2, h3⟩ := HTE.out.at_ k hk hT0
            have h4 := ents_inj hK.ents (i := A.getD k 0 - 1) (j := j) (by omega) hj (by rw [h2, hjk])
            refine ⟨by omega, ?_⟩
            cases hfrb : fr
            · rfl
            · have h5 := hfr hfrb
              have h6 := (HT.out.at_ k hk hT0).1
              omega
          rw [hAT.1] at r4
          obtain ⟨_, rfl⟩ := hAT
          replace r4 : wc.cell? ⟨g, k, none⟩ = some (.int .i64 ((j : Int) + 1)) := r4
          have hj0 : (0 : Int) < (j : Int) + 1 := by omega
          have hj1 : ((j : Int) + 1 == 0) = false := by simp; omega
          clear hT0 hfr hK hjk
          by_cases htj : top ≤ j
          · have htji : (top : Int) ≤ (j : Int) := by omega
            go_wp2_with fail
            go_meet
            exact ⟨j + 1, A, B, by simp, hR, RA, RB, HTE.out.rise hj⟩
          · have htji : ¬ (top : Int) ≤ (j : Int) := by omega
            go_wp2_with fail
            go_meet
            exact ⟨top, A, B, rfl, hR, RA, RB, HTE.out⟩
        · have hA0 : A.getD k 0 = 0 := by omega
          rw [hA0] at r4
          replace r4 : wc.cell? ⟨g, k, none⟩ = some (.int .i64 0) := r4
          have htj : fr = true → ¬ (j : Int) < (top : Int) := fun h => by have := hfr h; omega
          have hwk : IntKind.u64.wrap (k : Int) = (k : Int) := IntWalk.u64_in _ ⟨by omega, by omega⟩
          have hR1 := hR.setX ⟨g, k, none⟩ HXG.out HXL.out (.int .i64 ((j : Int) + 1))
          have RA1 := RA.set k (.int .i64 ((j + 1 : Nat) : Int))
          rw [intsK_set] at RA1
          have RB1 := RB.other (Ne.symm HGG.out) k (.int .i64 ((j + 1 : Nat) : Int))
          replace RA1 : Rw (wc.setCell ⟨g, k, none⟩ (.int .i64 ((j : Int) + 1))) g (intsK (A.set k (j + 1))) 3 := RA1
          replace RB1 : Rw (wc.setCell ⟨g, k, none⟩ (.int .i64 ((j : Int) + 1))) f (strsK B) 9 := RB1
          have hrr := rq_read hR1 hK.calm 0 (j : Int)
          rw [hK.read hj] at hrr
          obtain ⟨ex, hex⟩ : ∃ ex, (E ++ te).getD j zEn = ex := ⟨_, rfl⟩
          have hset := HTE.out.set_ hj hk hjk
          rw [show (E ++ te).getD j (0, 0, []) = ex from hex] at hrr
          rw [hex] at hjk hset
          obtain ⟨xc, xs', xb⟩ := ex
          simp only at hjk hset hrr
          subst hjk
          have HRR := Go.Lib.hid hrr
          have HSET := Go.Lib.hid hset
          have hB16 : B.length = 16 := HT.out.bl
          have rb := RB1.cell xs' _ (strsK_at B xs' (by omega))
          clear hrr hset hex hT0 hA0 hfr hK hR RA RB
          cases fr
          all_goals
            first | (have htj' := htj rfl) | skip
            clear htj
            go_wp2_with fail
            clear r4 f4
            generalize hw1 : wc.setCell ⟨g, xs', none⟩ (.int .i64 ((j : Int) + 1)) = w1 at *
            clear hw1
            go_at_call 13
            refine HRR.out.mono ?_
            rintro e w6 ⟨a6, n6, c6, rfl, hr6, hb6⟩
            have hr6' : NB.RdB w6 a6 n6 c6 xb := hr6
            have ob := oneB w6 (.cells #[.int .u64 (xc : Int), .int .u64 (xs' : Int), .slice a6 n6 c6] 34)
            have RY : Rw (w6.alloc (.cells #[.int .u64 (xc : Int), .int .u64 (xs' : Int), .slice a6 n6 c6] 34)) w6.heap.size [.int .u64 (xc : Int), .int .u64 (xs' : Int), .slice a6 n6 c6] 34 := NB.rw_new w6 [.int .u64 (xc : Int), .int .u64 (xs' : Int), .slice a6 n6 c6] _ rfl
            have hb7 := bel hb6 ob hb6.size
            have hR7 := hR1.below hb7
            have RA7 := RA1.below hb7
            have RB7 := RB1.below hb7
            have hr7 := Rd.below hr6' ob
            have y1 := RY.cell 1 _ rfl
            have y2 := RY.cell 2 _ rfl
            have rb7 := (Below.cell hb7 (World.block_lt_of_cell? _ _ rb)).trans rb
            have fb7 := RB7.free xs'
            have hR8 := hR7.setX ⟨f, xs', none⟩ HXF.out HXL.out (strV xb)
            have RB8 := RB7.set xs' (strV xb)
            rw [strsK_set] at RB8
            have RA8 := RA7.other HGG.out xs' (strV xb)
            clear hr6 hr6' ob hb6 hb7 hR1 hR7 RA1 RA7 RB1 RB7 HRR rb
            simp only
            by_cases htj2 : top ≤ j
            · have htji : (top : Int) ≤ (j : Int) := by omega
              go_wp2_with (refine NB.wpList_conv_str rfl 22 9 (.tmp 186) rfl Try.underlying22 Try.underlying5 Try.underlying9 a6 n6 c6 xb rfl hr7 ?_)
              go_meet
              exact ⟨j + 1, _, _, by simp, hR8, RA8, RB8, HSET.out.rise hj⟩
            · first
                | (exfalso; omega)
                | (have htji : ¬ (top : Int) ≤ (j : Int) := by omega
                   go_wp2_with (refine NB.wpList_conv_str rfl 22 9 (.tmp 186) rfl Try.underlying22 Try.underlying5 Try.underlying9 a6 n6 c6 xb rfl hr7 ?_)
                   go_meet
                   exact ⟨top, _, _, rfl, hR8, RA8, RB8, HSET.out⟩)
      case rest =>
        clear hR RA RB HT hlow htp hA16
        obtain ⟨top', A', B', rfl, hR, RA, RB, hT⟩ := hcut
        have hlow := rq_low hR
        have HT := Go.Lib.hid hT
        clear hT
        have q2 := (Below.cell hlow (World.block_lt_of_cell? _ _ q2w)).trans q2w
        have q3 := (Below.cell hlow (World.block_lt_of_cell? _ _ q3w)).trans q3w
        go_upto_region 35 with (fail)
        go_cut [205] from 72 to 296 (fun x wx => wx = wc ∧ ∃ b : Bool, x = .bool b ∧ (b = false → ec = 0))
        case first => as_aux_lemma =>
          have hec : ec = 0 ∨ ec = 20 := HF.out.elim (fun h => .inl h.1) .inr
          clear HF HC
          rcases hec with rfl | rfl
          · go_wp2_with fail
            go_meet
            exact ⟨rfl, e8, rfl, fun _ => rfl⟩
          · go_wp2_with fail
            go_meet
            exact ⟨rfl, true, rfl, fun h => by cases h⟩
        case rest =>
          obtain ⟨hwe, b, rfl, hb0⟩ := hcut
          subst hwe
          have HB0 := Go.Lib.hid hb0
          clear hb0
          go_upto_if 205 with (fail)
          go_cut [12, 13] from 72 to 296 (fun rv ev wx => ∃ (r' : Nat) (D2 : Dk) (R2 : Rp) (t2 : List En), rv = .pointer (some ⟨r', 0, none⟩) ∧ ev = .int .i64 0 ∧ HasRp (rkX g f) w wx r' p D2 R2 ∧ Rw wx g (intsK A') 3 ∧ Rw wx f (strsK B') 9 ∧ Kst (m + 1) (m + 1) (E ++ te ++ t2) D2 R2)
          case first => as_aux_lemma =>
            cases b
            case false =>
              have hec := HB0.out rfl
              have hK : Kst m (m + 1) (E ++ te) D' R' := by
                rcases HF.out with ⟨_, hK, _⟩ | h20
                · exact hK
                · exact absurd (hec.symm.trans h20) (by decide)
              have HK := Go.Lib.hid hK
              clear hK hec HF HC HB0
              go_wp2_with fail
              go_meet
              exact ⟨r, D', R', [], rfl, rfl, hR, RA, RB, by rw [List.append_nil]; exact HK.out.more (Nat.le_succ _) (Nat.le_refl _)⟩
            case true =>
              obtain ⟨hcw, hcl, hco⟩ := HC.out
              obtain ⟨R2, E2, ho, ⟨t2, rfl⟩, hK2⟩ := hco pk
              have hcr := rpcrash_any hR ap np cp pk (Rd.below hrp0 hlow) (fun kk oo e hne => .inr (Rd.lt hrp0 kk oo e (by simpa using hne))) (by omega)
              have HCR := Go.Lib.hid hcr
              have HO := Go.Lib.hid ho
              have HK2 := Go.Lib.hid hK2
              clear hcr ho hK2 hco hcw hcl HC HF HB0
              go_wp2_with fail
              go_at_call 17
              refine HCR.out.mono ?_
              rintro e w6 ⟨rfl, hR6, K6⟩
              have RA6 := RA.keep K6 (fun hn => hn HXG.out)
              have RB6 := RB.keep K6 (fun hn => hn HXF.out)
              have hl6 : (D'.crash pk).l.length = 120 := HK2.out.calm.len
              have hop := rpop_any hR6.dd 0 40 3 0 (by omega) (by omega) (by show 0 ≤ 900000; omega) (by omega)
              rw [show ((0 : Nat) : Int) = 0 from rfl, HO.out] at hop
              have HOP := Go.Lib.hid hop
              clear hop RA RB K6 HCR HO hR hl6
              generalize hD2 : D'.crash pk = D2 at *
              clear hD2
              go_wp2_with fail
              go_at_call 10
              refine HOP.out.mono ?_
              rintro e w7 ⟨hh, K7⟩
              obtain ⟨_, r', rfl, hR7⟩ := hh.resolve_left (fun h => h.1 rfl)
              have RA7 := RA6.keep K7 (fun hn => hn HXG.out)
              have RB7 := RB6.keep K7 (fun hn => hn HXF.out)
              replace hR7 : HasRp (rkX g f) w w7 r' p D2 R2 := hR7
              clear hh RA6 RB6 K7 HOP hR6
              simp only
              go_wp2_with (at_make; refine wpList_make_full w7 rfl (.const (.int .i64 16)) (.const (.int .i64 16)) 49 rfl w7.heap.size 4 tb (.bool false) 1 slKB.ht htb hzb hsb .i64 .i64 _ _ 16 rfl rfl (by simp) (by simp) (by rw [HBB.out]; omega) (by unfold maxLen; omega) (Nat.le_refl _) ?_; intro w8 ho8 hg8; obtain ⟨RS8, bl8⟩ := rowK_made (.bool false) rfl (by omega) ho8 hg8; clear ho8 hg8)
              replace RS8 : Rw w8 w7.heap.size (boolsK (List.replicate 16 false)) 4 := RS8
              have hgs : g ≠ w7.heap.size := by have := RA7.lt; omega
              have hfs : f ≠ w7.heap.size := by have := RB7.lt; omega
              have hR8 := hR7.keepX (Y := fun kk => rkX g f kk ∨ kk = w7.heap.size) bl8 (fun kk hk => hk.elim .inl (fun e => .inr (by omega))) (fun kk hk => by
                rcases hk with (hk | hk) | hk
                · have := RA7.lt; have := bl8.size; omega
                · have := RB7.lt; have := bl8.size; omega
                · rw [hk]; exact RS8.lt)
              have hxl3 : ∀ kk : Nat, (rkX g f kk ∨ kk = w7.heap.size) → w.heap.size ≤ kk := fun kk hk => hk.elim (fun h => HXL.out kk h) (fun e => by rw [e]; exact (rq_low hR7).size)
              have RA8 := RA7.below bl8
              have RB8 := RB7.below bl8
              have HXL3 := Go.Lib.hid hxl3
              have HGS := Go.Lib.hid hgs
              have HFS := Go.Lib.hid hfs
              clear RA7 RB7 hR7 bl8 hxl3 hgs hfs
              generalize w7.heap.size = sb at *
              obtain ⟨F, hF⟩ : ∃ F, E ++ te ++ t2 = F := ⟨_, rfl⟩
              rw [hF] at HK2
              have HFE := Go.Lib.hid hF
              clear hF
              have hl0 : (R2.seg 0).l.length = F.length := by rw [HK2.out.l0, List.length_map]
              have hFN : F.length ≤ 17 := by have := HK2.out.len; omega
              obtain ⟨N, hN⟩ : ∃ N, F.length = N := ⟨_, rfl⟩
              rw [hN] at hl0 hFN
              have HN := Go.Lib.hid hN
              have HL0 := Go.Lib.hid hl0
              clear hN hl0
              by_cases hN0 : N = 0
              case pos =>
                subst hN0
                have hlens := rk_lens hR8 HK2.out.calm (by omega) 0 (Nat.zero_le _) (fun h => absurd h (by omega)) (fun i h1 h2 => by
                  rw [HK2.out.many] at h2
                  have h3 : i = 0 ∨ i = 1 ∨ i = 2 := by omega
                  rcases h3 with h3 | h3 | h3
                  · rw [h3]; exact List.eq_nil_of_length_eq_zero HL0.out
                  · rw [h3]; exact HK2.out.l1
                  · rw [h3]; exact HK2.out.l2)
                have HLENS := Go.Lib.hid hlens
                clear hlens
                go_wp2_with fail
                go_at_call 12
                refine HLENS.out.mono ?_
                rintro e w9 ⟨a9, c9, rfl, hb9, _⟩
                have hR9 := hR8.below hb9
                have RA9 := RA8.below hb9
                have RB9 := RB8.below hb9
                clear hR8 RA8 RB8 RS8 hb9 HLENS
                simp only
                go_wp2_with fail
                go_loopw [26] (fun jv wx => jv = .int .i64 0 ∧ wx = w9) (fun _ _ => 0)
                case atStart => exact ⟨rfl, rfl⟩
                case round =>
                  obtain ⟨rfl, rfl⟩ := hrel
                  go_wp2_with fail
                  go_meet
                  exact ⟨r', D2, R2, t2, rfl, rfl, hR9.imp (fun kk h => .inl h), RA9, RB9, by rw [HFE.out]; exact HK2.out⟩
              case neg =>
                have hNp : (0 : Int) < (N : Int) := by omega
                have hwN : IntKind.i64.wrap (N : Int) = (N : Int) := IntWalk.i64_in _ (by omega)
                have hlens := rk_lens hR8 HK2.out.calm (by omega) 1 (by rw [HK2.out.many]; omega) (fun _ h0 => by have h9 := HL0.out; rw [h0] at h9; simp at h9; omega) (fun i h1 h2 => by
                  rw [HK2.out.many] at h2
                  have h3 : i = 1 ∨ i = 2 := by omega
                  rcases h3 with h3 | h3
                  · rw [h3]; exact HK2.out.l1
                  · rw [h3]; exact HK2.out.l2)
                have HLENS := Go.Lib.hid hlens
                clear hlens
                go_wp2_with fail
                go_at_call 12
                refine HLENS.out.mono ?_
                rintro e w9 ⟨a9, c9, rfl, hb9, hl9'⟩
                obtain ⟨b9, o9, rfl, hlo9, hc9⟩ := hl9' (by omega)
                have n9 := hc9 0 (by omega)
                rw [HL0.out, Nat.add_zero] at n9
                have hR9 := hR8.below hb9
                have RA9 := RA8.below hb9
                have RB9 := RB8.below hb9
                have RS9 := RS8.below hb9
                have hbs9 : b9 ≠ sb := by have := RS8.lt; omega
                have HBS9 := Go.Lib.hid hbs9
                clear hR8 RA8 RB8 RS8 hb9 HLENS hl9' hc9 hlo9 hbs9
                simp only
                go_wp2_with fail
                go_loopw [26] (fun jv wx => ∃ (j : Nat) (S : List Bool), j ≤ N ∧ jv = .int .i64 (j : Int) ∧ HasRp (fun kk => rkX g f kk ∨ kk = sb) w wx r' p D2 R2 ∧ Rw wx g (intsK A') 3 ∧ Rw wx f (strsK B') 9 ∧ Rw wx sb (boolsK S) 4 ∧ Seen F j S ∧ wx.cell? ⟨b9, o9, none⟩ = some (.int .u64 (N : Int))) (fun jv _ => N - (intOf jv).toNat)
                case atStart => exact ⟨0, _, Nat.zero_le _, rfl, hR9, RA9, RB9, RS9, seen_begin F, n9⟩
                case round =>
                  clear hR9 RA9 RB9 RS9 n9
                  obtain ⟨j', S, hjN, rfl, hR9, RA9, RB9, RS9, hS, n9⟩ := hrel
                  have HS := Go.Lib.hid hS
                  clear hS
                  by_cases hjn : j' < N
                  case neg =>
                    obtain rfl : j' = N := by omega
                    have hji : ¬ (j' : Int) < (j' : Int) := by omega
                    go_wp2_with fail
                    go_meet
                    exact ⟨r', D2, R2, t2, rfl, rfl, hR9.imp (fun kk h => .inl h), RA9, RB9, by rw [HFE.out]; exact HK2.out⟩
                  have hji : (j' : Int) < (N : Int) := by omega
                  have hjF : j' < F.length := by rw [HN.out]; exact hjn
                  have hrr := rq_read hR9 HK2.out.calm 0 (j' : Int)
                  rw [HK2.out.read hjF] at hrr
                  have hnot := seen_not HS.out HK2.out.ents hjF
                  have hmore := seen_more (E := F) (j := j') HS.out
                  obtain ⟨xs', xb, hex, hx16⟩ := ents_at HK2.out.ents hjF
                  rw [show F.getD j' (0, 0, []) = (3, xs', xb) from hex] at hrr
                  rw [hex] at hnot hmore
                  simp only at hnot hmore
                  have hS16 : S.length = 16 := HS.out.1
                  have HRR := Go.Lib.hid hrr
                  have HMORE := Go.Lib.hid hmore
                  have HNOT := Go.Lib.hid hnot
                  have hx16i : ¬ (15 : Int) < (xs' : Int) := by omega
                  have hx16l : (xs' : Int) < 16 := by omega
                  clear hrr hmore hnot hex hjF HS
                  go_wp2_with fail
                  go_at_call 13
                  refine HRR.out.mono ?_
                  rintro e w10 ⟨a10, n10, c10, rfl, hr10, hb10⟩
                  have ob := oneB w10 (.cells #[.int .u64 3, .int .u64 (xs' : Int), .slice a10 n10 c10] 34)
                  have RY : Rw (w10.alloc (.cells #[.int .u64 3, .int .u64 (xs' : Int), .slice a10 n10 c10] 34)) w10.heap.size [.int .u64 3, .int .u64 (xs' : Int), .slice a10 n10 c10] 34 := NB.rw_new w10 [.int .u64 3, .int .u64 (xs' : Int), .slice a10 n10 c10] _ rfl
                  have hb11 := bel hb10 ob hb10.size
                  have hR11 := hR9.below hb11
                  have RA11 := RA9.below hb11
                  have RB11 := RB9.below hb11
                  have RS11 := RS9.below hb11
                  have n11 := (Below.cell hb11 (World.block_lt_of_cell? _ _ n9)).trans n9
                  have y1 := RY.cell 1 _ rfl
                  have s11 := RS11.cell xs' _ (boolsK_at S xs' (by omega))
                  rw [HNOT.out] at s11
                  have f11 := RS11.free xs'
                  have hR12 := hR11.setX ⟨sb, xs', none⟩ (.inr rfl) HXL3.out (.bool true)
                  have RA12 := RA11.other HGS.out xs' (.bool true)
                  have RB12 := RB11.other HFS.out xs' (.bool true)
                  have RS12 := RS11.set xs' (.bool true)
                  rw [boolsK_set] at RS12
                  have n12 : ((w10.alloc (.cells #[.int .u64 3, .int .u64 (xs' : Int), .slice a10 n10 c10] 34)).setCell ⟨sb, xs', none⟩ (.bool true)).cell? ⟨b9, o9, none⟩ = some (.int .u64 (N : Int)) := by
                    exact (World.cell?_setCell_other _ _ _ _ (by simp; exact fun e => absurd e.symm HBS9.out)).trans n11
                  clear hr10 hb10 hb11 ob hR9 RA9 RB9 RS9 n9 HRR hR11 RA11 RB11 RS11
                  simp only
                  go_wp2_with fail
                  exact ⟨⟨j' + 1, _, by omega, by simp, hR12, RA12, RB12, RS12, HMORE.out, n12⟩, by simp [intOf]; omega⟩
          case rest =>
            clear hR RA RB hlow HF HC HB0 q2 q3
            obtain ⟨r', D2, R2, t2, rfl, rfl, hR, RA, RB, hK2⟩ := hcut
            have hTF := HT.out.more t2
            obtain ⟨F, hF⟩ : ∃ F, E ++ te ++ t2 = F := ⟨_, rfl⟩
            rw [hF] at hK2 hTF
            have hA16 : A'.length = 16 := hTF.al
            have hB16 : B'.length = 16 := hTF.bl
            have HK2 := Go.Lib.hid hK2
            have HTF := Go.Lib.hid hTF
            clear hF hTF hK2 HT
            have HR := Go.Lib.hid hR; have HRA := Go.Lib.hid RA; have HRB := Go.Lib.hid RB
            clear hR RA RB
            go_wp2_with fail
            go_loopw [29] (fun jv wx => ∃ (j : Nat), j ≤ 16 ∧ jv = .int .i64 (j : Int) ∧ HasRp (rkX g f) w wx r' p D2 R2 ∧ Rw wx g (intsK A') 3 ∧ Rw wx f (strsK B') 9) (fun jv _ => 16 - (intOf jv).toNat)
            case atStart => exact ⟨0, Nat.zero_le _, rfl, HR.out, HRA.out, HRB.out⟩
            case round =>
              clear HR HRA HRB
              obtain ⟨j', hj16, rfl, hR, RA, RB⟩ := hrel
              by_cases hj : j' < 16
              case neg =>
                obtain rfl : j' = 16 := by omega
                go_wp2_with fail
                exact HEND.out _ _ _ _ _ _ _ _ _ _ _ _ _ _ _ _ _ _ _ _ _ _ _ _ _ _ _ _ _ _ _ _ _ _ _ _ _ _ _ _ _ _ _ _ _ _ _ _ _ _ _ _ _ _ _ _ _ _ _ _ _ _ _ _ _ _ _ _ _ _ _ _ _ _ _ _ _ _ _ _ _ _ _ _ _ _ _ _ _ _ _ _ _ _ _ _ _ _ _ _ _ _ _ _ _ _ _ _ _ _ _ _ _ _ _ _ _ _ _ _ _ _ _ _ _ _ _ _ _ _ _ _ _ _ _ _ _ _ _ _ _ _ _ _ _ _ _ _ _ _ _ _ _ _ _ _ _ _ _ _ _ _ _ _ _ _ _ _ _ _ _ _ _ _ _ _ _ _ _ _ _ _ _ _ _ _ _ _ _ _ _ _ _ _ _ _ _ _ _ _ _ _ _ _ _ _ _ _ _ _ _ _ _ _ _ _ _ _ _ _ _ _ _ _ _ _ _ _ _ _ _ _ _ _ _ _ _ _ _ _ r' top' A' B' F D2 R2 _ hR RA RB HK2.out HTF.out
              have hji : (j' : Int) < 16 := by omega
              have r4 := RA.cell j' _ (intsK_at A' j' (by omega))
              obtain ⟨T, hT⟩ : ∃ T, A'.getD j' 0 = T := ⟨_, rfl⟩
              rw [hT] at r4
              by_cases hT0 : T = 0
              · subst hT0
                replace r4 : wr.cell? ⟨g, j', none⟩ = some (.int .i64 0) := r4
                clear hT
                go_wp2_with fail
                exact ⟨⟨j' + 1, by omega, by simp, hR, RA, RB⟩, by simp [intOf]; omega⟩
              obtain ⟨U, rfl⟩ : ∃ U, T = U + 1 := ⟨T - 1, by omega⟩
              obtain ⟨hU1, hU2, hU3⟩ := HTF.out.at_ j' hj (by omega)
              rw [hT, Nat.add_sub_cancel] at hU2 hU3
              rw [hT] at hU1
              replace r4 : wr.cell? ⟨g, j', none⟩ = some (.int .i64 ((U : Int) + 1)) := r4
              have hU17 : U ≤ 17 := by have := HK2.out.len; omega
              have hUz : ((U : Int) + 1 == 0) = false := by simp; omega
              have hrr := rq_read hR HK2.out.calm 0 (U : Int)
              rw [HK2.out.read (show U < F.length by omega)] at hrr
              obtain ⟨ex, hex⟩ : ∃ ex, F.getD U zEn = ex := ⟨_, rfl⟩
              rw [show F.getD U (0, 0, []) = ex from hex] at hrr
              rw [hex] at hU2 hU3
              obtain ⟨xc, xs', xb⟩ := ex
              simp only at hU2 hU3 hrr
              subst hU2
              have s4 := RB.cell xs' _ (strsK_at B' xs' (by omega))
              rw [← hU3] at s4
              replace s4 : wr.cell? ⟨f, xs', none⟩ = some (.string ⟨xb.toArray⟩) := s4
              have HRR := Go.Lib.hid hrr
              have hws : IntKind.u64.wrap (xs' : Int) = (xs' : Int) := IntWalk.u64_in _ ⟨by omega, by omega⟩
              clear hrr hex hU3 hT hT0 hU1
              go_wp2_with fail
              go_at_call 13
              refine HRR.out.mono ?_
              rintro e w6 ⟨a6, n6, c6, rfl, hr6, hb6⟩
              have hr6' : NB.RdB w6 a6 n6 c6 xb := hr6
              have ob := oneB w6 (.cells #[.int .u64 (xc : Int), .int .u64 (xs' : Int), .slice a6 n6 c6] 34)
              have RY : Rw (w6.alloc (.cells #[.int .u64 (xc : Int), .int .u64 (xs' : Int), .slice a6 n6 c6] 34)) w6.heap.size [.int .u64 (xc : Int), .int .u64 (xs' : Int), .slice a6 n6 c6] 34 := NB.rw_new w6 [.int .u64 (xc : Int), .int .u64 (xs' : Int), .slice a6 n6 c6] _ rfl
              have hb7 := bel hb6 ob hb6.size
              have hR7 := hR.below hb7
              have RA7 := RA.below hb7
              have RB7 := RB.below hb7
              have hr7 := Rd.below hr6' ob
              have s7 := (Below.cell hb7 (World.block_lt_of_cell? _ _ s4)).trans s4
              clear hr6 hr6' ob hb6 hb7 hR RA RB HRR s4 r4
              simp only
              go_wp2_with fail
              generalize w6.alloc (.cells #[.int .u64 (xc : Int), .int .u64 (xs' : Int), .slice a6 n6 c6] 34) = w7 at *
              refine NB.wp_region_m (by kernel_rfl) ?_
              have dr : Below w7.heap.size w7 w7.drew := dB w7
              have hR8 := hR7.below dr
              have RA8 := RA7.below dr
              have RB8 := RB7.below dr
              have RY8 := RY.below dr
              have hr8 := Rd.below hr7 dr
              have s8 := (Below.cell dr (World.block_lt_of_cell? _ _ s7)).trans s7
              clear hR7 RA7 RB7 RY hr7 s7 dr
              generalize w7.drew = w8 at *
              have y1 := RY8.cell 1 _ rfl
              have y2 := RY8.cell 2 _ rfl
              refine NB.any_p 0 rfl (by kernel_rfl) (fun K hK => ?_); go_simp; refine hK _ ?_; clear hK K
              refine NB.any_p 1 rfl (by kernel_rfl) (fun K hK => ?_); go_simp; refine hK _ ?_; clear hK K
              refine NB.any_p 2 rfl (by kernel_rfl) (fun K hK => ?_); go_simp; refine hK _ ?_; clear hK K
              refine NB.any_p 3 rfl (by kernel_rfl) (fun K hK => ?_); go_simp; refine hK _ ?_; clear hK K
              refine NB.any_r 4 rfl (by kernel_rfl) rfl _ (fun w' hw' => NB.run_op_load rfl rfl Try.underlying32 rfl y1 hw') (fun K hK => ?_); go_simp; refine hK _ ?_; clear hK K
              refine NB.any_p 5 rfl (by kernel_rfl) (fun K hK => ?_); go_simp; refine hK _ ?_; clear hK K
              refine NB.any_p 6 rfl (by kernel_rfl) (fun K hK => ?_); go_simp; refine hK _ ?_; clear hK K
              refine NB.any_p 7 rfl (by kernel_rfl) (fun K hK => ?_); go_simp; refine hK _ ?_; clear hK K
              refine NB.any_p 8 rfl (by kernel_rfl) (fun K hK => ?_); go_simp; refine hK _ ?_; clear hK K
              refine NB.any_p 9 rfl (by kernel_rfl) (fun K hK => ?_); go_simp; refine hK _ ?_; clear hK K
              refine NB.any_p 10 rfl (by kernel_rfl) (fun K hK => ?_); go_simp; refine hK _ ?_; clear hK K
              refine NB.any_r 11 rfl (by kernel_rfl) rfl _ (fun w' hw' => NB.run_op_load rfl rfl Try.underlying22 rfl y2 hw') (fun K hK => ?_); go_simp; refine hK _ ?_; clear hK K
              refine NB.any_r 12 rfl (by kernel_rfl) rfl _ (fun w' hw' => NB.run_op_conv_str Try.underlying22 Try.underlying5 Try.underlying9 rfl rfl (Rd.below hr8 hw')) (fun K hK => ?_); go_simp; refine hK _ ?_; clear hK K
              refine NB.any_p 13 rfl (by kernel_rfl) (fun K hK => ?_); go_simp; refine hK _ ?_; clear hK K
              refine NB.any_p 14 rfl (by kernel_rfl) (fun K hK => ?_); go_simp; refine hK _ ?_; clear hK K
              refine NB.any_p 15 rfl (by kernel_rfl) (fun K hK => ?_); go_simp; refine hK _ ?_; clear hK K
              refine NB.any_r 16 rfl (by kernel_rfl) rfl _ (fun w' hw' => NB.run_op_load rfl rfl Try.underlying9 rfl s8 hw') (fun K hK => ?_); go_simp; refine hK _ ?_; clear hK K
              refine NB.any_p 17 rfl (by kernel_rfl) (fun K hK => ?_); go_simp; refine hK _ ?_; clear hK K
              refine NB.any_p 18 rfl (by kernel_rfl) (fun K hK => ?_); go_simp; refine hK _ ?_; clear hK K
              refine NB.any_end (by kernel_rfl) ?_
              go_wp2_with fail
              exact ⟨⟨xs' + 1, by omega, by simp, hR8, RA8, RB8⟩, by simp [intOf]; omega⟩
end Go.Proofs.Ytjfidhjnbcmhfaa
