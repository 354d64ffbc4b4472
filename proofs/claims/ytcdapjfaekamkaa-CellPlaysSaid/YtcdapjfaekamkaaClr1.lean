/- The walk for the statement CellPlays: arms of the turn. -/
import Derived.Test.YtcdapjfaekamkaaClq
import Derived.Test.YtcdapjfaekamkaaOpena
namespace Go.Proofs.Ytcdapjfaekamkaa
open Go.RowKit
open Go.NB (Rd Dk Kp Stp Off Dis val Ce footC)

set_option maxRecDepth 100000 in
set_option maxHeartbeats 16000000 in
theorem clp_A0 (w w1 wr : World) (p g h N0 at_ n c0 b o : Nat) (hN1 : 1 ≤ N0) (hN8 : N0 ≤ 8) (hat2 : at_ + 2 ≤ N0) (hbase : w.heap.size ≤ w1.heap.size) (hgw : w.heap.size ≤ g) (hhw : w.heap.size ≤ h) (hbd : n ≤ 9223372036854775807 ∧ c0 ≤ 9223372036854775807) (hnc : n ≤ c0)
    (k q : Nat) (D : Dk) (F G : Nat → Prop) (c : Ce) (a1 : Option Addr) (c1 : Nat) (a2 : Option Addr) (c2 : Nat) (hlt : k < n) (hk30 : k < 30) (P : Pc wr w1.heap.size q p g h F G c c D D a1 c1 a2 c2) (hCI : CI at_ c) (hDn : D.l.length = N0) (hwk : D.waits.length ≤ k) (hB : Below w.heap.size w wr)
    (K N : Int) (Z : Nat) (a' : Option Addr) (n' c'' : Nat) (bs : List UInt8) (q0 : wr.cell? ⟨b, o + k * 4, none⟩ = some (.int .i64 K)) (q1 : wr.cell? ⟨b, o + k * 4 + 1, none⟩ = some (.int .i64 N)) (q2 : wr.cell? ⟨b, o + k * 4 + 2, none⟩ = some (.slice a' n' c'')) (q3 : wr.cell? ⟨b, o + k * 4 + 3, none⟩ = some (.int .u64 (Z : Int)))
    (hzb : 0 ≤ (Z : Int) ∧ (Z : Int) ≤ 18446744073709551615) (hbs0 : NB.RdB w a' n' c'' bs) (h60 : ¬ 60 < n') (hkv : bits .and .i64 K 7 = 0)
    (y0 y3 y4 y5 y7 y9 y11 y19 y20 y21 y22 y23 y24 y25 y26 y27 y28 y29 y30 y31 y32 y33 y34 y35 y36 y37 y38 y39 y40 y41 y42 y43 y44 y45 y46 y47 y48 y49 y50 y51 y52 y53 y54 y55 y56 y57 y58 y59 : Value) (x6 x13 x15 x17 x18 x60 x61 x62 x63 x64 x65 x66 x67 x68 x69 x70 x71 x72 x73 x74 x75 x76 x77 x78 x79 x80 x81 x82 x83 x84 x85 x86 x87 x88 x89 x90 x91 x92 x93 x94 x95 x96 x97 x98 x99 x100 x101 x102 x103 x104 x105 x106 x107 x108 x109 x110 x111 x112 x113 x114 x115 x116 x117 x118 x119 x120 x121 x122 x123 x124 x125 x126 x127 x128 x129 x130 x131 x132 x133 x134 x135 x136 x137 x138 x139 x140 x141 x142 x143 x144 x145 x146 x147 x148 x149 x150 x151 x152 x153 x154 x155 x156 x157 x158 x159 x160 x161 x162 x163 x164 x165 x166 x167 x168 x169 x170 x171 x172 x173 x174 x175 x176 x177 x178 x179 x180 x181 x182 x183 x184 x185 x186 x187 x188 x189 x190 x191 x192 x193 x194 x195 x196 x197 x198 x199 x200 x201 : Value) (KK : Act → World → Prop) (QQ : Exit → Act → World → Prop)
    (HEND : Hid (∀ (z6 z13 z15 z17 z18 z60 z61 z62 z63 z64 z65 z66 z67 z68 z69 z70 z71 z72 z73 z74 z75 z76 z77 z78 z79 z80 z81 z82 z83 z84 z85 z86 z87 z88 z89 z90 z91 z92 z93 z94 z95 z96 z97 z98 z99 z100 z101 z102 z103 z104 z105 z106 z107 z108 z109 z110 z111 z112 z113 z114 z115 z116 z117 z118 z119 z120 z121 z122 z123 z124 z125 z126 z127 z128 z129 z130 z131 z132 z133 z134 z135 z136 z137 z138 z139 z140 z141 z142 z143 z144 z145 z146 z147 z148 z149 z150 z151 z152 z153 z154 z155 z156 z157 z158 z159 z160 z161 z162 z163 z164 z165 z166 z167 z168 z169 z170 z171 z172 z173 z174 z175 z176 z177 z178 z179 z180 z181 z182 z183 z184 z185 z186 z187 z188 z189 z190 z191 z192 z193 z194 z195 z196 z197 z198 z199 z200 z201 : Value) (q : Nat) (D : Dk) (F G : Nat → Prop) (c : Ce) (a1 : Option Addr) (c1 : Nat) (a2 : Option Addr) (c2 : Nat) (v : World), Pc v w1.heap.size q p g h F G c c D D a1 c1 a2 c2 → CI at_ c → D.l.length = N0 → D.waits.length ≤ k + 1 → Below w.heap.size w v → KK ⟨#[y0, .int .i64 (at_ : Int), .slice (some ⟨b, o, none⟩) n c0, y3, y4, y5, z6, y7, .pointer (some ⟨p, 0, none⟩), y9, .pointer (some ⟨g, 0, none⟩), y11, .pointer (some ⟨q, 0, none⟩), z13, .pointer (some ⟨h, 0, none⟩), z15, .int .i64 ((k : Int) + 1), z17, z18, y19, y20, y21, y22, y23, y24, y25, y26, y27, y28, y29, y30, y31, y32, y33, y34, y35, y36, y37, y38, y39, y40, y41, y42, y43, y44, y45, y46, y47, y48, y49, y50, y51, y52, y53, y54, y55, y56, y57, y58, y59, z60, z61, z62, z63, z64, z65, z66, z67, z68, z69, z70, z71, z72, z73, z74, z75, z76, z77, z78, z79, z80, z81, z82, z83, z84, z85, z86, z87, z88, z89, z90, z91, z92, z93, z94, z95, z96, z97, z98, z99, z100, z101, z102, z103, z104, z105, z106, z107, z108, z109, z110, z111, z112, z113, z114, z115, z116, z117, z118, z119, z120, z121, z122, z123, z124, z125, z126, z127, z128, z129, z130, z131, z132, z133, z134, z135, z136, z137, z138, z139, z140, z141, z142, z143, z144, z145, z146, z147, z148, z149, z150, z151, z152, z153, z154, z155, z156, z157, z158, z159, z160, z161, z162, z163, z164, z165, z166, z167, z168, z169, z170, z171, z172, z173, z174, z175, z176, z177, z178, z179, z180, z181, z182, z183, z184, z185, z186, z187, z188, z189, z190, z191, z192, z193, z194, z195, z196, z197, z198, z199, z200, z201], []⟩ v)) :
    Code.wp Try.prog clpBody (Exit.then KK QQ) ⟨#[y0, .int .i64 (at_ : Int), .slice (some ⟨b, o, none⟩) n c0, y3, y4, y5, x6, y7, .pointer (some ⟨p, 0, none⟩), y9, .pointer (some ⟨g, 0, none⟩), y11, .pointer (some ⟨q, 0, none⟩), x13, .pointer (some ⟨h, 0, none⟩), x15, .int .i64 ((k : Int)), x17, x18, y19, y20, y21, y22, y23, y24, y25, y26, y27, y28, y29, y30, y31, y32, y33, y34, y35, y36, y37, y38, y39, y40, y41, y42, y43, y44, y45, y46, y47, y48, y49, y50, y51, y52, y53, y54, y55, y56, y57, y58, y59, x60, x61, x62, x63, x64, x65, x66, x67, x68, x69, x70, x71, x72, x73, x74, x75, x76, x77, x78, x79, x80, x81, x82, x83, x84, x85, x86, x87, x88, x89, x90, x91, x92, x93, x94, x95, x96, x97, x98, x99, x100, x101, x102, x103, x104, x105, x106, x107, x108, x109, x110, x111, x112, x113, x114, x115, x116, x117, x118, x119, x120, x121, x122, x123, x124, x125, x126, x127, x128, x129, x130, x131, x132, x133, x134, x135, x136, x137, x138, x139, x140, x141, x142, x143, x144, x145, x146, x147, x148, x149, x150, x151, x152, x153, x154, x155, x156, x157, x158, x159, x160, x161, x162, x163, x164, x165, x166, x167, x168, x169, x170, x171, x172, x173, x174, x175, x176, x177, x178, x179, x180, x181, x182, x183, x184, x185, x186, x187, x188, x189, x190, x191, x192, x193, x194, x195, x196, x197, x198, x199, x200, x201], []⟩ wr := by
  conv => arg 2; whnf
  have hki : (k : Int) < (n : Int) := by omega
  have hk30i : (k : Int) < 30 := by omega
  have hbl := NB.RdB.size hbs0
  have hbb := Rd.bound hbs0
  have h60i : ¬ (60 : Int) < (n' : Int) := by omega
  obtain ⟨hlf, hln⟩ := P.d.facts
  have hl64 := P.d.l64
  have hw64 := P.d.w64
  have RAe : Rw (wr.alloc (.cells #[.int .i64 K, .int .i64 N, .slice a' n' c'', .int .u64 (Z : Int)] 57)) wr.heap.size [.int .i64 K, .int .i64 N, .slice a' n' c'', .int .u64 (Z : Int)] 57 := rw_new wr [.int .i64 K, .int .i64 N, .slice a' n' c'', .int .u64 (Z : Int)] _ rfl
  have hob := oneB wr (.cells #[.int .i64 K, .int .i64 N, .slice a' n' c'', .int .u64 (Z : Int)] 57)
  have Pe := P.below hob
  have Be := bel hB hob hB.size
  have hnA : ¬ (F wr.heap.size ∨ G wr.heap.size) := fun hf => by
    rcases hf with hf | hf
    · have := (P.cell.foot _ hf).2; omega
    · have := (P.d.foot _ hf).2; omega
  obtain ⟨we, hwe⟩ : ∃ we, wr.alloc (.cells #[.int .i64 K, .int .i64 N, .slice a' n' c'', .int .u64 (Z : Int)] 57) = we := ⟨_, rfl⟩
  rw [hwe] at RAe Pe Be
  have hofB : Off (fun j => F j ∨ G j) we a' n' c'' bs := Off.old hbs0 Be (fun j hj => Nat.le_trans hbase (Pe.low j hj))
  obtain ⟨m0, m1, m2, m3, _, _, _, _⟩ := rw4 RAe
  have HDN := Go.Lib.hid hDn
  clear hDn
  have HL64 := Go.Lib.hid hl64
  have HW64 := Go.Lib.hid hw64
  have hgh := P.gh
  clear hl64 hw64 hob P hB
  go_wp2_with fail

  obtain ⟨c', E, A, hE⟩ : ∃ c' E A, c.set D laidL bs = ((c', E), A) := ⟨_, _, _, rfl⟩
  have hck := ci_set hCI D bs (by omega)
  have hdk := set_dk c D bs
  rw [hE] at hck hdk
  simp only at hck hdk
  obtain ⟨hen, hew⟩ := hdk
  have HEN := Go.Lib.hid (hen.trans HDN.out)
  clear hen
  have HE := Go.Lib.hid hE
  have CIN := Go.Lib.hid hck
  have hcb := hck.b
  have hAA : (A != A) = false := by simp
  clear hE hck
  go_at_call 11
  refine (set_any _ _ q p F G c D _ _ _ bs Pe.cell Pe.d Pe.dis hofB (by omega) (by have := hCI.at_; omega) hCI.top (by omega)).mono ?_
  rw [HE.out]
  rintro e w6 ⟨rfl, F6, G6, hC6, hD6, hFG6, hS6⟩
  replace hC6 : HasC w6 w1.heap.size q p F6 c' := hC6
  replace hD6 : HasD w6 w1.heap.size p G6 E := hD6
  have P6 := Pe.setC hC6 hD6 hFG6 hS6
  have RA6 := RAe.keep hS6.kp hnA
  have B6 := bel Be (hS6.low Be.size (fun j hj => Nat.le_trans hbase (Pe.low j hj))) (Nat.le_refl _)
  have hrX := (hofB.step hS6).rd
  clear hC6 hD6 hFG6 hS6

  clear m0 m1 m2 m3
  obtain ⟨m0, m1, m2, m3, _, _, _, _⟩ := rw4 RA6
  obtain ⟨y0, y1, y2, y3, _, _, _, _⟩ := rw4 P6.row

  obtain ⟨x0, x1, x2, x3, x4, x5, _, _, _, _, _, _⟩ := rw6 P6.rowC
  have hrw := rset_any w6 _ D c bs P6.ref hCI.now (by have := hCI.at_; omega) hCI.top hlf.1 hlf.2 hln (by omega) HW64.out (by omega)
  rw [HE.out] at hrw
  unfold rdV strL cV at hrw
  have HRW := Go.Lib.hid hrw
  clear hrw
  go_wp2_with (first
    | (refine NB.wpList_conv_str rfl 23 9 (.tmp 124) rfl Try.underlying23 Try.underlying5 Try.underlying9 a' n' c'' bs rfl hrX ?_))
  go_at_call 20
  refine HRW.out.mono ?_
  rintro e w7 ⟨v7, rfl, hr7, hb7, hl7⟩

  obtain ⟨z0, z1, z2, z3, s0, s1, s2, s3⟩ := rw4 (P6.row.below hb7)
  have B7 := bel B6 hb7 B6.size
  obtain ⟨b1, d1, b2, d2, rfl, P8⟩ := P6.put hb7 hr7 hl7
  have B8 : Below w.heap.size w ((((w7.setCell ⟨g, 0, none⟩ (.slice b1 E.l.length d1)).setCell ⟨g, 1, none⟩ (.slice b2 E.waits.length d2)).setCell ⟨g, 2, none⟩ (.int .i64 E.left)).setCell ⟨g, 3, none⟩ (.bool E.down)) := (Below.setCell (p := ⟨g, 3, none⟩) (Below.setCell (p := ⟨g, 2, none⟩) (Below.setCell (p := ⟨g, 1, none⟩) (Below.setCell (p := ⟨g, 0, none⟩) B7 hgw _) hgw _) hgw _) hgw _)
  unfold rdV
  clear y0 y1 y2 y3

  replace P8 : Pc _ _ _ _ _ _ _ _ _ _ _ _ _ _ _ _ := P8
  obtain ⟨x0', x1', x2', x3', x4', x5', t0, t1, t2, t3, t4, t5⟩ := rw6 P8.rowC
  have PS := P8.putC c'
  have BS : Below w.heap.size w ((((((((((w7.setCell ⟨g, 0, none⟩ (.slice b1 E.l.length d1)).setCell ⟨g, 1, none⟩ (.slice b2 E.waits.length d2)).setCell ⟨g, 2, none⟩ (.int .i64 E.left)).setCell ⟨g, 3, none⟩ (.bool E.down)).setCell ⟨h, 0, none⟩ (.int .i64 (c'.at_ : Int))).setCell ⟨h, 1, none⟩ (.int .i64 c'.now)).setCell ⟨h, 2, none⟩ (.int .u64 (c'.turn : Int))).setCell ⟨h, 3, none⟩ (.int .u64 (c'.top : Int))).setCell ⟨h, 4, none⟩ (.string ⟨c'.b.toArray⟩)).setCell ⟨h, 5, none⟩ (.int .i64 c'.e)) := (Below.setCell (p := ⟨h, 5, none⟩) (Below.setCell (p := ⟨h, 4, none⟩) (Below.setCell (p := ⟨h, 3, none⟩) (Below.setCell (p := ⟨h, 2, none⟩) (Below.setCell (p := ⟨h, 1, none⟩) (Below.setCell (p := ⟨h, 0, none⟩) B8 hhw _) hhw _) hhw _) hhw _) hhw _) hhw _)
  unfold cV
  clear x0 x1 x2 x3 x4 x5 m0 m1 m2 m3
  go_wp2_with fail
  generalize ((((((((((w7.setCell ⟨g, 0, none⟩ (.slice b1 E.l.length d1)).setCell ⟨g, 1, none⟩ (.slice b2 E.waits.length d2)).setCell ⟨g, 2, none⟩ (.int .i64 E.left)).setCell ⟨g, 3, none⟩ (.bool E.down)).setCell ⟨h, 0, none⟩ (.int .i64 (c'.at_ : Int))).setCell ⟨h, 1, none⟩ (.int .i64 c'.now)).setCell ⟨h, 2, none⟩ (.int .u64 (c'.turn : Int))).setCell ⟨h, 3, none⟩ (.int .u64 (c'.top : Int))).setCell ⟨h, 4, none⟩ (.string ⟨c'.b.toArray⟩)).setCell ⟨h, 5, none⟩ (.int .i64 c'.e)) = wS at *
  clear x0' x1' x2' x3' x4' x5' t0 t1 t2 t3 t4 t5 z0 z1 z2 z3 s0 s1 s2 s3 P8 B8 B7 P6 B6 RA6 RAe Pe Be hofB hr7 hb7 hl7 hrX hnA
  refine NB.wp_region_m (by kernel_rfl) ?_
  have PT := PS.below (Below.refl _ wS).drew
  have BT : Below w.heap.size w wS.drew := BS.drew
  clear PS BS
  generalize wS.drew = wT at *
  refine NB.any_p 0 rfl (by kernel_rfl) (fun K hK => ?_); go_simp; refine hK _ ?_; clear hK K
  refine NB.any_p 1 rfl (by kernel_rfl) (fun K hK => ?_); go_simp; refine hK _ ?_; clear hK K
  refine NB.any_p 2 rfl (by kernel_rfl) (fun K hK => ?_); go_simp; refine hK _ ?_; clear hK K
  refine NB.any_p 3 rfl (by kernel_rfl) (fun K hK => ?_); go_simp; refine hK _ ?_; clear hK K
  refine NB.any_p 4 rfl (by kernel_rfl) (fun K hK => ?_); go_simp; refine hK _ ?_; clear hK K
  refine NB.any_r 5 rfl (by kernel_rfl) rfl _ (fun w' hw' => NB.run_op_load_agg rfl rfl Try.underlying49 rfl _ _ (0, 0) (PT.row) (m := 4) (by kernel_rfl) (by simp) _ rfl hw') (fun K hK => ?_); go_simp; refine hK _ ?_; clear hK K
  refine NB.any_e 6 rfl (by kernel_rfl) (fun K hK => ?_); unfold NB.moves; go_simp; refine (alike_any _ _ p _ _ _ PT.d PT.ref (by omega)).mono ?_; rintro e wU ⟨rfl, hbU⟩; refine ⟨_, rfl, hbU, hK _ _ ?_⟩; clear hK K
  have PU := PT.below hbU
  have BU := bel BT hbU BT.size
  clear PT BT hbU
  refine NB.any_p 7 rfl (by kernel_rfl) (fun K hK => ?_); go_simp; refine hK _ ?_; clear hK K
  refine NB.any_p 8 rfl (by kernel_rfl) (fun K hK => ?_); go_simp; refine hK _ ?_; clear hK K
  refine NB.any_p 9 rfl (by kernel_rfl) (fun K hK => ?_); go_simp; refine hK _ ?_; clear hK K
  refine NB.any_p 10 rfl (by kernel_rfl) (fun K hK => ?_); go_simp; refine hK _ ?_; clear hK K
  refine NB.any_p 11 rfl (by kernel_rfl) (fun K hK => ?_); go_simp; refine hK _ ?_; clear hK K
  refine NB.any_p 12 rfl (by kernel_rfl) (fun K hK => ?_); go_simp; refine hK _ ?_; clear hK K
  refine NB.any_p 13 rfl (by kernel_rfl) (fun K hK => ?_); go_simp; refine hK _ ?_; clear hK K
  refine NB.any_p 16 rfl (by kernel_rfl) (fun K hK => ?_); go_simp; refine hK _ ?_; clear hK K
  refine NB.any_r 17 rfl (by kernel_rfl) rfl _ (fun w' hw' => NB.run_op_load rfl rfl Try.underlying9 rfl (PU.rowC.cell 4 _ rfl) hw') (fun K hK => ?_); go_simp; refine hK _ ?_; clear hK K
  refine NB.any_e 14 rfl (by kernel_rfl) (fun K hK => ?_); unfold NB.moves; go_simp; refine (get_any _ _ _ _ _ _ PU.cell (by omega)).mono ?_; rintro e wV ⟨aV, kV, rfl, hoV, hbV⟩; refine ⟨_, rfl, hbV, hK _ _ ?_⟩; clear hK K
  have hrV := (Off.fresh (F := fun _ => False) hoV (fun _ h => h.elim)).rd
  have PV := PU.below hbV
  have BV := bel BU hbV BU.size
  clear PU BU hbV hoV
  refine NB.any_r 15 rfl (by kernel_rfl) rfl _ (fun w' hw' => NB.run_op_conv_str Try.underlying23 Try.underlying5 Try.underlying9 rfl rfl (Rd.below (hrV) hw')) (fun K hK => ?_); go_simp; refine hK _ ?_; clear hK K
  refine NB.any_p 18 rfl (by kernel_rfl) (fun K hK => ?_); go_simp; refine hK _ ?_; clear hK K
  refine NB.any_p 19 rfl (by kernel_rfl) (fun K hK => ?_); go_simp; refine hK _ ?_; clear hK K
  refine NB.any_p 20 rfl (by kernel_rfl) (fun K hK => ?_); go_simp; refine hK _ ?_; clear hK K
  refine NB.any_p 22 rfl (by kernel_rfl) (fun K hK => ?_); go_simp; refine hK _ ?_; clear hK K
  refine NB.any_r 23 rfl (by kernel_rfl) rfl _ (fun w' hw' => NB.run_op_load rfl rfl Try.underlying33 rfl (PV.rowC.cell 2 _ rfl) hw') (fun K hK => ?_); go_simp; refine hK _ ?_; clear hK K
  refine NB.any_e 21 rfl (by kernel_rfl) (fun K hK => ?_); unfold NB.moves; go_simp; refine (turn_any _ _ _ _ _ _ PV.cell).mono ?_; rintro e w' ⟨rfl, e2⟩; subst w'; refine ⟨_, rfl, Below.refl _ _, hK _ _ ?_⟩; clear hK K
  refine NB.any_p 24 rfl (by kernel_rfl) (fun K hK => ?_); go_simp; refine hK _ ?_; clear hK K
  refine NB.any_p 25 rfl (by kernel_rfl) (fun K hK => ?_); go_simp; refine hK _ ?_; clear hK K
  refine NB.any_p 26 rfl (by kernel_rfl) (fun K hK => ?_); go_simp; refine hK _ ?_; clear hK K
  refine NB.any_p 27 rfl (by kernel_rfl) (fun K hK => ?_); go_simp; refine hK _ ?_; clear hK K
  refine NB.any_end (by kernel_rfl) ?_
  go_wp2_with fail
  exact HEND.out _ _ _ _ _ _ _ _ _ _ _ _ _ _ _ _ _ _ _ _ _ _ _ _ _ _ _ _ _ _ _ _ _ _ _ _ _ _ _ _ _ _ _ _ _ _ _ _ _ _ _ _ _ _ _ _ _ _ _ _ _ _ _ _ _ _ _ _ _ _ _ _ _ _ _ _ _ _ _ _ _ _ _ _ _ _ _ _ _ _ _ _ _ _ _ _ _ _ _ _ _ _ _ _ _ _ _ _ _ _ _ _ _ _ _ _ _ _ _ _ _ _ _ _ _ _ _ _ _ _ _ _ _ _ _ _ _ _ _ _ _ _ _ _ _ _ _ q E F6 G6 c' b1 d1 b2 d2 _ PV CIN.out HEN.out (by omega) BV

set_option maxRecDepth 100000 in
set_option maxHeartbeats 16000000 in
theorem clp_A1 (w w1 wr : World) (p g h N0 at_ n c0 b o : Nat) (hN1 : 1 ≤ N0) (hN8 : N0 ≤ 8) (hat2 : at_ + 2 ≤ N0) (hbase : w.heap.size ≤ w1.heap.size) (hgw : w.heap.size ≤ g) (hhw : w.heap.size ≤ h) (hbd : n ≤ 9223372036854775807 ∧ c0 ≤ 9223372036854775807) (hnc : n ≤ c0)
    (k q : Nat) (D : Dk) (F G : Nat → Prop) (c : Ce) (a1 : Option Addr) (c1 : Nat) (a2 : Option Addr) (c2 : Nat) (hlt : k < n) (hk30 : k < 30) (P : Pc wr w1.heap.size q p g h F G c c D D a1 c1 a2 c2) (hCI : CI at_ c) (hDn : D.l.length = N0) (hwk : D.waits.length ≤ k) (hB : Below w.heap.size w wr)
    (K N : Int) (Z : Nat) (a' : Option Addr) (n' c'' : Nat) (bs : List UInt8) (q0 : wr.cell? ⟨b, o + k * 4, none⟩ = some (.int .i64 K)) (q1 : wr.cell? ⟨b, o + k * 4 + 1, none⟩ = some (.int .i64 N)) (q2 : wr.cell? ⟨b, o + k * 4 + 2, none⟩ = some (.slice a' n' c'')) (q3 : wr.cell? ⟨b, o + k * 4 + 3, none⟩ = some (.int .u64 (Z : Int)))
    (hzb : 0 ≤ (Z : Int) ∧ (Z : Int) ≤ 18446744073709551615) (hbs0 : NB.RdB w a' n' c'' bs) (h60 : ¬ 60 < n') (hkv : bits .and .i64 K 7 = 1)
    (y0 y3 y4 y5 y7 y9 y11 y19 y20 y21 y22 y23 y24 y25 y26 y27 y28 y29 y30 y31 y32 y33 y34 y35 y36 y37 y38 y39 y40 y41 y42 y43 y44 y45 y46 y47 y48 y49 y50 y51 y52 y53 y54 y55 y56 y57 y58 y59 : Value) (x6 x13 x15 x17 x18 x60 x61 x62 x63 x64 x65 x66 x67 x68 x69 x70 x71 x72 x73 x74 x75 x76 x77 x78 x79 x80 x81 x82 x83 x84 x85 x86 x87 x88 x89 x90 x91 x92 x93 x94 x95 x96 x97 x98 x99 x100 x101 x102 x103 x104 x105 x106 x107 x108 x109 x110 x111 x112 x113 x114 x115 x116 x117 x118 x119 x120 x121 x122 x123 x124 x125 x126 x127 x128 x129 x130 x131 x132 x133 x134 x135 x136 x137 x138 x139 x140 x141 x142 x143 x144 x145 x146 x147 x148 x149 x150 x151 x152 x153 x154 x155 x156 x157 x158 x159 x160 x161 x162 x163 x164 x165 x166 x167 x168 x169 x170 x171 x172 x173 x174 x175 x176 x177 x178 x179 x180 x181 x182 x183 x184 x185 x186 x187 x188 x189 x190 x191 x192 x193 x194 x195 x196 x197 x198 x199 x200 x201 : Value) (KK : Act → World → Prop) (QQ : Exit → Act → World → Prop)
    (HEND : Hid (∀ (z6 z13 z15 z17 z18 z60 z61 z62 z63 z64 z65 z66 z67 z68 z69 z70 z71 z72 z73 z74 z75 z76 z77 z78 z79 z80 z81 z82 z83 z84 z85 z86 z87 z88 z89 z90 z91 z92 z93 z94 z95 z96 z97 z98 z99 z100 z101 z102 z103 z104 z105 z106 z107 z108 z109 z110 z111 z112 z113 z114 z115 z116 z117 z118 z119 z120 z121 z122 z123 z124 z125 z126 z127 z128 z129 z130 z131 z132 z133 z134 z135 z136 z137 z138 z139 z140 z141 z142 z143 z144 z145 z146 z147 z148 z149 z150 z151 z152 z153 z154 z155 z156 z157 z158 z159 z160 z161 z162 z163 z164 z165 z166 z167 z168 z169 z170 z171 z172 z173 z174 z175 z176 z177 z178 z179 z180 z181 z182 z183 z184 z185 z186 z187 z188 z189 z190 z191 z192 z193 z194 z195 z196 z197 z198 z199 z200 z201 : Value) (q : Nat) (D : Dk) (F G : Nat → Prop) (c : Ce) (a1 : Option Addr) (c1 : Nat) (a2 : Option Addr) (c2 : Nat) (v : World), Pc v w1.heap.size q p g h F G c c D D a1 c1 a2 c2 → CI at_ c → D.l.length = N0 → D.waits.length ≤ k + 1 → Below w.heap.size w v → KK ⟨#[y0, .int .i64 (at_ : Int), .slice (some ⟨b, o, none⟩) n c0, y3, y4, y5, z6, y7, .pointer (some ⟨p, 0, none⟩), y9, .pointer (some ⟨g, 0, none⟩), y11, .pointer (some ⟨q, 0, none⟩), z13, .pointer (some ⟨h, 0, none⟩), z15, .int .i64 ((k : Int) + 1), z17, z18, y19, y20, y21, y22, y23, y24, y25, y26, y27, y28, y29, y30, y31, y32, y33, y34, y35, y36, y37, y38, y39, y40, y41, y42, y43, y44, y45, y46, y47, y48, y49, y50, y51, y52, y53, y54, y55, y56, y57, y58, y59, z60, z61, z62, z63, z64, z65, z66, z67, z68, z69, z70, z71, z72, z73, z74, z75, z76, z77, z78, z79, z80, z81, z82, z83, z84, z85, z86, z87, z88, z89, z90, z91, z92, z93, z94, z95, z96, z97, z98, z99, z100, z101, z102, z103, z104, z105, z106, z107, z108, z109, z110, z111, z112, z113, z114, z115, z116, z117, z118, z119, z120, z121, z122, z123, z124, z125, z126, z127, z128, z129, z130, z131, z132, z133, z134, z135, z136, z137, z138, z139, z140, z141, z142, z143, z144, z145, z146, z147, z148, z149, z150, z151, z152, z153, z154, z155, z156, z157, z158, z159, z160, z161, z162, z163, z164, z165, z166, z167, z168, z169, z170, z171, z172, z173, z174, z175, z176, z177, z178, z179, z180, z181, z182, z183, z184, z185, z186, z187, z188, z189, z190, z191, z192, z193, z194, z195, z196, z197, z198, z199, z200, z201], []⟩ v)) :
    Code.wp Try.prog clpBody (Exit.then KK QQ) ⟨#[y0, .int .i64 (at_ : Int), .slice (some ⟨b, o, none⟩) n c0, y3, y4, y5, x6, y7, .pointer (some ⟨p, 0, none⟩), y9, .pointer (some ⟨g, 0, none⟩), y11, .pointer (some ⟨q, 0, none⟩), x13, .pointer (some ⟨h, 0, none⟩), x15, .int .i64 ((k : Int)), x17, x18, y19, y20, y21, y22, y23, y24, y25, y26, y27, y28, y29, y30, y31, y32, y33, y34, y35, y36, y37, y38, y39, y40, y41, y42, y43, y44, y45, y46, y47, y48, y49, y50, y51, y52, y53, y54, y55, y56, y57, y58, y59, x60, x61, x62, x63, x64, x65, x66, x67, x68, x69, x70, x71, x72, x73, x74, x75, x76, x77, x78, x79, x80, x81, x82, x83, x84, x85, x86, x87, x88, x89, x90, x91, x92, x93, x94, x95, x96, x97, x98, x99, x100, x101, x102, x103, x104, x105, x106, x107, x108, x109, x110, x111, x112, x113, x114, x115, x116, x117, x118, x119, x120, x121, x122, x123, x124, x125, x126, x127, x128, x129, x130, x131, x132, x133, x134, x135, x136, x137, x138, x139, x140, x141, x142, x143, x144, x145, x146, x147, x148, x149, x150, x151, x152, x153, x154, x155, x156, x157, x158, x159, x160, x161, x162, x163, x164, x165, x166, x167, x168, x169, x170, x171, x172, x173, x174, x175, x176, x177, x178, x179, x180, x181, x182, x183, x184, x185, x186, x187, x188, x189, x190, x191, x192, x193, x194, x195, x196, x197, x198, x199, x200, x201], []⟩ wr := by
  conv => arg 2; whnf
  have hki : (k : Int) < (n : Int) := by omega
  have hk30i : (k : Int) < 30 := by omega
  have hbl := NB.RdB.size hbs0
  have hbb := Rd.bound hbs0
  have h60i : ¬ (60 : Int) < (n' : Int) := by omega
  obtain ⟨hlf, hln⟩ := P.d.facts
  have hl64 := P.d.l64
  have hw64 := P.d.w64
  have RAe : Rw (wr.alloc (.cells #[.int .i64 K, .int .i64 N, .slice a' n' c'', .int .u64 (Z : Int)] 57)) wr.heap.size [.int .i64 K, .int .i64 N, .slice a' n' c'', .int .u64 (Z : Int)] 57 := rw_new wr [.int .i64 K, .int .i64 N, .slice a' n' c'', .int .u64 (Z : Int)] _ rfl
  have hob := oneB wr (.cells #[.int .i64 K, .int .i64 N, .slice a' n' c'', .int .u64 (Z : Int)] 57)
  have Pe := P.below hob
  have Be := bel hB hob hB.size
  have hnA : ¬ (F wr.heap.size ∨ G wr.heap.size) := fun hf => by
    rcases hf with hf | hf
    · have := (P.cell.foot _ hf).2; omega
    · have := (P.d.foot _ hf).2; omega
  obtain ⟨we, hwe⟩ : ∃ we, wr.alloc (.cells #[.int .i64 K, .int .i64 N, .slice a' n' c'', .int .u64 (Z : Int)] 57) = we := ⟨_, rfl⟩
  rw [hwe] at RAe Pe Be
  have hofB : Off (fun j => F j ∨ G j) we a' n' c'' bs := Off.old hbs0 Be (fun j hj => Nat.le_trans hbase (Pe.low j hj))
  obtain ⟨m0, m1, m2, m3, _, _, _, _⟩ := rw4 RAe
  have HDN := Go.Lib.hid hDn
  clear hDn
  have HL64 := Go.Lib.hid hl64
  have HW64 := Go.Lib.hid hw64
  have hgh := P.gh
  clear hl64 hw64 hob P hB
  go_wp2_with fail

  obtain ⟨c', E, A, hE⟩ : ∃ c' E A, c.set D laidL bs = ((c', E), A) := ⟨_, _, _, rfl⟩
  have hck := ci_set hCI D bs (by omega)
  have hdk := set_dk c D bs
  rw [hE] at hck hdk
  simp only at hck hdk
  obtain ⟨hen, hew⟩ := hdk
  have HEN := Go.Lib.hid (hen.trans HDN.out)
  clear hen
  have HE := Go.Lib.hid hE
  have CIN := Go.Lib.hid hck
  have hcb := hck.b
  have hAA : (A != A) = false := by simp
  clear hE hck
  go_at_call 11
  refine (set_any _ _ q p F G c D _ _ _ bs Pe.cell Pe.d Pe.dis hofB (by omega) (by have := hCI.at_; omega) hCI.top (by omega)).mono ?_
  rw [HE.out]
  rintro e w6 ⟨rfl, F6, G6, hC6, hD6, hFG6, hS6⟩
  replace hC6 : HasC w6 w1.heap.size q p F6 c' := hC6
  replace hD6 : HasD w6 w1.heap.size p G6 E := hD6
  have P6 := Pe.setC hC6 hD6 hFG6 hS6
  have RA6 := RAe.keep hS6.kp hnA
  have B6 := bel Be (hS6.low Be.size (fun j hj => Nat.le_trans hbase (Pe.low j hj))) (Nat.le_refl _)
  have hrX := (hofB.step hS6).rd
  clear hC6 hD6 hFG6 hS6

  clear m0 m1 m2 m3
  obtain ⟨m0, m1, m2, m3, _, _, _, _⟩ := rw4 RA6
  obtain ⟨y0, y1, y2, y3, _, _, _, _⟩ := rw4 P6.row

  obtain ⟨x0, x1, x2, x3, x4, x5, _, _, _, _, _, _⟩ := rw6 P6.rowC
  have hrw := rset_any w6 _ D c bs P6.ref hCI.now (by have := hCI.at_; omega) hCI.top hlf.1 hlf.2 hln (by omega) HW64.out (by omega)
  rw [HE.out] at hrw
  unfold rdV strL cV at hrw
  have HRW := Go.Lib.hid hrw
  clear hrw
  go_wp2_with (first
    | (refine NB.wpList_conv_str rfl 23 9 (.tmp 124) rfl Try.underlying23 Try.underlying5 Try.underlying9 a' n' c'' bs rfl hrX ?_))
  go_at_call 20
  refine HRW.out.mono ?_
  rintro e w7 ⟨v7, rfl, hr7, hb7, hl7⟩

  obtain ⟨z0, z1, z2, z3, s0, s1, s2, s3⟩ := rw4 (P6.row.below hb7)
  have B7 := bel B6 hb7 B6.size
  obtain ⟨b1, d1, b2, d2, rfl, P8⟩ := P6.put hb7 hr7 hl7
  have B8 : Below w.heap.size w ((((w7.setCell ⟨g, 0, none⟩ (.slice b1 E.l.length d1)).setCell ⟨g, 1, none⟩ (.slice b2 E.waits.length d2)).setCell ⟨g, 2, none⟩ (.int .i64 E.left)).setCell ⟨g, 3, none⟩ (.bool E.down)) := (Below.setCell (p := ⟨g, 3, none⟩) (Below.setCell (p := ⟨g, 2, none⟩) (Below.setCell (p := ⟨g, 1, none⟩) (Below.setCell (p := ⟨g, 0, none⟩) B7 hgw _) hgw _) hgw _) hgw _)
  unfold rdV
  clear y0 y1 y2 y3

  replace P8 : Pc _ _ _ _ _ _ _ _ _ _ _ _ _ _ _ _ := P8
  obtain ⟨x0', x1', x2', x3', x4', x5', t0, t1, t2, t3, t4, t5⟩ := rw6 P8.rowC
  have PS := P8.putC c'
  have BS : Below w.heap.size w ((((((((((w7.setCell ⟨g, 0, none⟩ (.slice b1 E.l.length d1)).setCell ⟨g, 1, none⟩ (.slice b2 E.waits.length d2)).setCell ⟨g, 2, none⟩ (.int .i64 E.left)).setCell ⟨g, 3, none⟩ (.bool E.down)).setCell ⟨h, 0, none⟩ (.int .i64 (c'.at_ : Int))).setCell ⟨h, 1, none⟩ (.int .i64 c'.now)).setCell ⟨h, 2, none⟩ (.int .u64 (c'.turn : Int))).setCell ⟨h, 3, none⟩ (.int .u64 (c'.top : Int))).setCell ⟨h, 4, none⟩ (.string ⟨c'.b.toArray⟩)).setCell ⟨h, 5, none⟩ (.int .i64 c'.e)) := (Below.setCell (p := ⟨h, 5, none⟩) (Below.setCell (p := ⟨h, 4, none⟩) (Below.setCell (p := ⟨h, 3, none⟩) (Below.setCell (p := ⟨h, 2, none⟩) (Below.setCell (p := ⟨h, 1, none⟩) (Below.setCell (p := ⟨h, 0, none⟩) B8 hhw _) hhw _) hhw _) hhw _) hhw _) hhw _)
  unfold cV
  clear x0 x1 x2 x3 x4 x5 m0 m1 m2 m3
  go_wp2_with fail
  generalize ((((((((((w7.setCell ⟨g, 0, none⟩ (.slice b1 E.l.length d1)).setCell ⟨g, 1, none⟩ (.slice b2 E.waits.length d2)).setCell ⟨g, 2, none⟩ (.int .i64 E.left)).setCell ⟨g, 3, none⟩ (.bool E.down)).setCell ⟨h, 0, none⟩ (.int .i64 (c'.at_ : Int))).setCell ⟨h, 1, none⟩ (.int .i64 c'.now)).setCell ⟨h, 2, none⟩ (.int .u64 (c'.turn : Int))).setCell ⟨h, 3, none⟩ (.int .u64 (c'.top : Int))).setCell ⟨h, 4, none⟩ (.string ⟨c'.b.toArray⟩)).setCell ⟨h, 5, none⟩ (.int .i64 c'.e)) = wS at *
  clear x0' x1' x2' x3' x4' x5' t0 t1 t2 t3 t4 t5 z0 z1 z2 z3 s0 s1 s2 s3 P8 B8 B7 P6 B6 RA6 RAe Pe Be hofB hr7 hb7 hl7 hrX hnA
  refine NB.wp_region_m (by kernel_rfl) ?_
  have PT := PS.below (Below.refl _ wS).drew
  have BT : Below w.heap.size w wS.drew := BS.drew
  clear PS BS
  generalize wS.drew = wT at *
  refine NB.any_p 0 rfl (by kernel_rfl) (fun K hK => ?_); go_simp; refine hK _ ?_; clear hK K
  refine NB.any_p 1 rfl (by kernel_rfl) (fun K hK => ?_); go_simp; refine hK _ ?_; clear hK K
  refine NB.any_p 2 rfl (by kernel_rfl) (fun K hK => ?_); go_simp; refine hK _ ?_; clear hK K
  refine NB.any_p 3 rfl (by kernel_rfl) (fun K hK => ?_); go_simp; refine hK _ ?_; clear hK K
  refine NB.any_p 4 rfl (by kernel_rfl) (fun K hK => ?_); go_simp; refine hK _ ?_; clear hK K
  refine NB.any_r 5 rfl (by kernel_rfl) rfl _ (fun w' hw' => NB.run_op_load_agg rfl rfl Try.underlying49 rfl _ _ (0, 0) (PT.row) (m := 4) (by kernel_rfl) (by simp) _ rfl hw') (fun K hK => ?_); go_simp; refine hK _ ?_; clear hK K
  refine NB.any_e 6 rfl (by kernel_rfl) (fun K hK => ?_); unfold NB.moves; go_simp; refine (alike_any _ _ p _ _ _ PT.d PT.ref (by omega)).mono ?_; rintro e wU ⟨rfl, hbU⟩; refine ⟨_, rfl, hbU, hK _ _ ?_⟩; clear hK K
  have PU := PT.below hbU
  have BU := bel BT hbU BT.size
  clear PT BT hbU
  refine NB.any_p 7 rfl (by kernel_rfl) (fun K hK => ?_); go_simp; refine hK _ ?_; clear hK K
  refine NB.any_p 8 rfl (by kernel_rfl) (fun K hK => ?_); go_simp; refine hK _ ?_; clear hK K
  refine NB.any_p 9 rfl (by kernel_rfl) (fun K hK => ?_); go_simp; refine hK _ ?_; clear hK K
  refine NB.any_p 10 rfl (by kernel_rfl) (fun K hK => ?_); go_simp; refine hK _ ?_; clear hK K
  refine NB.any_p 11 rfl (by kernel_rfl) (fun K hK => ?_); go_simp; refine hK _ ?_; clear hK K
  refine NB.any_p 12 rfl (by kernel_rfl) (fun K hK => ?_); go_simp; refine hK _ ?_; clear hK K
  refine NB.any_p 13 rfl (by kernel_rfl) (fun K hK => ?_); go_simp; refine hK _ ?_; clear hK K
  refine NB.any_p 16 rfl (by kernel_rfl) (fun K hK => ?_); go_simp; refine hK _ ?_; clear hK K
  refine NB.any_r 17 rfl (by kernel_rfl) rfl _ (fun w' hw' => NB.run_op_load rfl rfl Try.underlying9 rfl (PU.rowC.cell 4 _ rfl) hw') (fun K hK => ?_); go_simp; refine hK _ ?_; clear hK K
  refine NB.any_e 14 rfl (by kernel_rfl) (fun K hK => ?_); unfold NB.moves; go_simp; refine (get_any _ _ _ _ _ _ PU.cell (by omega)).mono ?_; rintro e wV ⟨aV, kV, rfl, hoV, hbV⟩; refine ⟨_, rfl, hbV, hK _ _ ?_⟩; clear hK K
  have hrV := (Off.fresh (F := fun _ => False) hoV (fun _ h => h.elim)).rd
  have PV := PU.below hbV
  have BV := bel BU hbV BU.size
  clear PU BU hbV hoV
  refine NB.any_r 15 rfl (by kernel_rfl) rfl _ (fun w' hw' => NB.run_op_conv_str Try.underlying23 Try.underlying5 Try.underlying9 rfl rfl (Rd.below (hrV) hw')) (fun K hK => ?_); go_simp; refine hK _ ?_; clear hK K
  refine NB.any_p 18 rfl (by kernel_rfl) (fun K hK => ?_); go_simp; refine hK _ ?_; clear hK K
  refine NB.any_p 19 rfl (by kernel_rfl) (fun K hK => ?_); go_simp; refine hK _ ?_; clear hK K
  refine NB.any_p 20 rfl (by kernel_rfl) (fun K hK => ?_); go_simp; refine hK _ ?_; clear hK K
  refine NB.any_p 22 rfl (by kernel_rfl) (fun K hK => ?_); go_simp; refine hK _ ?_; clear hK K
  refine NB.any_r 23 rfl (by kernel_rfl) rfl _ (fun w' hw' => NB.run_op_load rfl rfl Try.underlying33 rfl (PV.rowC.cell 2 _ rfl) hw') (fun K hK => ?_); go_simp; refine hK _ ?_; clear hK K
  refine NB.any_e 21 rfl (by kernel_rfl) (fun K hK => ?_); unfold NB.moves; go_simp; refine (turn_any _ _ _ _ _ _ PV.cell).mono ?_; rintro e w' ⟨rfl, e2⟩; subst w'; refine ⟨_, rfl, Below.refl _ _, hK _ _ ?_⟩; clear hK K
  refine NB.any_p 24 rfl (by kernel_rfl) (fun K hK => ?_); go_simp; refine hK _ ?_; clear hK K
  refine NB.any_p 25 rfl (by kernel_rfl) (fun K hK => ?_); go_simp; refine hK _ ?_; clear hK K
  refine NB.any_p 26 rfl (by kernel_rfl) (fun K hK => ?_); go_simp; refine hK _ ?_; clear hK K
  refine NB.any_p 27 rfl (by kernel_rfl) (fun K hK => ?_); go_simp; refine hK _ ?_; clear hK K
  refine NB.any_end (by kernel_rfl) ?_
  go_wp2_with fail
  exact HEND.out _ _ _ _ _ _ _ _ _ _ _ _ _ _ _ _ _ _ _ _ _ _ _ _ _ _ _ _ _ _ _ _ _ _ _ _ _ _ _ _ _ _ _ _ _ _ _ _ _ _ _ _ _ _ _ _ _ _ _ _ _ _ _ _ _ _ _ _ _ _ _ _ _ _ _ _ _ _ _ _ _ _ _ _ _ _ _ _ _ _ _ _ _ _ _ _ _ _ _ _ _ _ _ _ _ _ _ _ _ _ _ _ _ _ _ _ _ _ _ _ _ _ _ _ _ _ _ _ _ _ _ _ _ _ _ _ _ _ _ _ _ _ _ _ _ _ _ q E F6 G6 c' b1 d1 b2 d2 _ PV CIN.out HEN.out (by omega) BV
end Go.Proofs.Ytcdapjfaekamkaa
