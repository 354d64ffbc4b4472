/- The walk for the statement SegmentPlays: arms of the turn. The walk for the statement SegmentPlays: arms of the turn. The walk for the statement SegmentPlays: arms of the turn. The walk for the statement SegmentPlays: arms of the turn. -/
import Derived.Test.YtmgkaoenjnnlmaaSpq
namespace Go.Proofs.Ytmgkaoenjnnlmaa
open Go.RowKit
open Go.NB.Crc
open Go.NB (Rd Dk Kp Stp Off Dis val I64)

set_option maxRecDepth 100000 in
set_option maxHeartbeats 32000000 in
theorem spl_A0 (w wr : World) (p g h N0 n c0 b o : Nat) (frm : Int) (hN1 : 1 ≤ N0) (hN24 : N0 ≤ 24) (hf64 : I64 frm) (hbd : n ≤ 9223372036854775807 ∧ c0 ≤ 9223372036854775807) (hnc : n ≤ c0)
    (k q : Nat) (D : Dk) (S : Sg) (a1 : Option Addr) (c1 : Nat) (a2 : Option Addr) (c2 : Nat) (aL : Option Addr) (cL : Nat) (hlt : k < n) (hk30 : k < 30) (P : Ps w wr g h D S a1 c1 a2 c2 aL cL) (SS : SdH (Hb g h (dvV D a1 c1 a2 c2) (svV S aL cL) (fun _ => False)) w wr q p D S) (HB : Bd N0 k D S)
    (K N : Int) (long : Bool) (a' : Option Addr) (c'' : Nat) (bs : List UInt8) (wN : I64 N) (q0 : wr.cell? ⟨b, o + k * 4, none⟩ = some (.int .i64 K)) (q1 : wr.cell? ⟨b, o + k * 4 + 1, none⟩ = some (.int .i64 N)) (q2 : wr.cell? ⟨b, o + k * 4 + 2, none⟩ = some (.slice a' bs.length c'')) (q3 : wr.cell? ⟨b, o + k * 4 + 3, none⟩ = some (.bool long))
    (hbs0 : NB.RdB w a' bs.length c'' bs) (h60 : ¬ 60 < bs.length) (hkv : bits .and .i64 K 15 = 0)
    (y3 y4 y5 y7 y9 y11 y22 y23 y24 y25 y26 y27 y28 y29 y30 y31 y32 y33 y34 y35 y36 y37 y38 y39 y40 y41 y42 y43 y44 y45 y46 y47 y48 y49 y50 y51 y52 y53 y54 y55 y56 y57 y58 y59 y60 y61 y62 y63 y64 y65 y66 : Value) (x6 x13 x15 x17 x18 x19 x20 x21 x67 x68 x69 x70 x71 x72 x73 x74 x75 x76 x77 x78 x79 x80 x81 x82 x83 x84 x85 x86 x87 x88 x89 x90 x91 x92 x93 x94 x95 x96 x97 x98 x99 x100 x101 x102 x103 x104 x105 x106 x107 x108 x109 x110 x111 x112 x113 x114 x115 x116 x117 x118 x119 x120 x121 x122 x123 x124 x125 x126 x127 x128 x129 x130 x131 x132 x133 x134 x135 x136 x137 x138 x139 x140 x141 x142 x143 x144 x145 x146 x147 x148 x149 x150 x151 x152 x153 x154 x155 x156 x157 x158 x159 x160 x161 x162 x163 x164 x165 x166 x167 x168 x169 x170 x171 x172 x173 x174 x175 x176 x177 x178 x179 x180 x181 x182 x183 x184 x185 x186 x187 x188 x189 x190 x191 x192 x193 x194 x195 x196 x197 x198 x199 x200 x201 x202 x203 x204 x205 x206 x207 x208 x209 x210 x211 x212 x213 x214 x215 x216 x217 x218 x219 x220 x221 x222 x223 x224 x225 x226 x227 x228 x229 x230 x231 x232 x233 x234 x235 x236 x237 x238 x239 x240 x241 x242 x243 x244 x245 x246 x247 x248 x249 x250 x251 x252 x253 x254 x255 : Value) (KK : Act → World → Prop) (QQ : Exit → Act → World → Prop)
    (HEND : Hid (∀ (z6 z13 z15 z17 z18 z19 z20 z21 z67 z68 z69 z70 z71 z72 z73 z74 z75 z76 z77 z78 z79 z80 z81 z82 z83 z84 z85 z86 z87 z88 z89 z90 z91 z92 z93 z94 z95 z96 z97 z98 z99 z100 z101 z102 z103 z104 z105 z106 z107 z108 z109 z110 z111 z112 z113 z114 z115 z116 z117 z118 z119 z120 z121 z122 z123 z124 z125 z126 z127 z128 z129 z130 z131 z132 z133 z134 z135 z136 z137 z138 z139 z140 z141 z142 z143 z144 z145 z146 z147 z148 z149 z150 z151 z152 z153 z154 z155 z156 z157 z158 z159 z160 z161 z162 z163 z164 z165 z166 z167 z168 z169 z170 z171 z172 z173 z174 z175 z176 z177 z178 z179 z180 z181 z182 z183 z184 z185 z186 z187 z188 z189 z190 z191 z192 z193 z194 z195 z196 z197 z198 z199 z200 z201 z202 z203 z204 z205 z206 z207 z208 z209 z210 z211 z212 z213 z214 z215 z216 z217 z218 z219 z220 z221 z222 z223 z224 z225 z226 z227 z228 z229 z230 z231 z232 z233 z234 z235 z236 z237 z238 z239 z240 z241 z242 z243 z244 z245 z246 z247 z248 z249 z250 z251 z252 z253 z254 z255 : Value) (q : Nat) (D : Dk) (S : Sg) (a1 : Option Addr) (c1 : Nat) (a2 : Option Addr) (c2 : Nat) (aL : Option Addr) (cL : Nat) (v : World), Ps w v g h D S a1 c1 a2 c2 aL cL → SdH (Hb g h (dvV D a1 c1 a2 c2) (svV S aL cL) (fun _ => False)) w v q p D S → Bd N0 (k + 1) D S → KK ⟨#[.int .i64 (N0 : Int), .int .i64 frm, .slice (some ⟨b, o, none⟩) n c0, y3, y4, y5, z6, y7, .pointer (some ⟨p, 0, none⟩), y9, .pointer (some ⟨g, 0, none⟩), y11, .pointer (some ⟨q, 0, none⟩), z13, .pointer (some ⟨h, 0, none⟩), z15, .int .i64 ((k : Int) + 1), z17, z18, z19, z20, z21, y22, y23, y24, y25, y26, y27, y28, y29, y30, y31, y32, y33, y34, y35, y36, y37, y38, y39, y40, y41, y42, y43, y44, y45, y46, y47, y48, y49, y50, y51, y52, y53, y54, y55, y56, y57, y58, y59, y60, y61, y62, y63, y64, y65, y66, z67, z68, z69, z70, z71, z72, z73, z74, z75, z76, z77, z78, z79, z80, z81, z82, z83, z84, z85, z86, z87, z88, z89, z90, z91, z92, z93, z94, z95, z96, z97, z98, z99, z100, z101, z102, z103, z104, z105, z106, z107, z108, z109, z110, z111, z112, z113, z114, z115, z116, z117, z118, z119, z120, z121, z122, z123, z124, z125, z126, z127, z128, z129, z130, z131, z132, z133, z134, z135, z136, z137, z138, z139, z140, z141, z142, z143, z144, z145, z146, z147, z148, z149, z150, z151, z152, z153, z154, z155, z156, z157, z158, z159, z160, z161, z162, z163, z164, z165, z166, z167, z168, z169, z170, z171, z172, z173, z174, z175, z176, z177, z178, z179, z180, z181, z182, z183, z184, z185, z186, z187, z188, z189, z190, z191, z192, z193, z194, z195, z196, z197, z198, z199, z200, z201, z202, z203, z204, z205, z206, z207, z208, z209, z210, z211, z212, z213, z214, z215, z216, z217, z218, z219, z220, z221, z222, z223, z224, z225, z226, z227, z228, z229, z230, z231, z232, z233, z234, z235, z236, z237, z238, z239, z240, z241, z242, z243, z244, z245, z246, z247, z248, z249, z250, z251, z252, z253, z254, z255], []⟩ v)) :
    Code.wp Try.prog splBody (Exit.then KK QQ) ⟨#[.int .i64 (N0 : Int), .int .i64 frm, .slice (some ⟨b, o, none⟩) n c0, y3, y4, y5, x6, y7, .pointer (some ⟨p, 0, none⟩), y9, .pointer (some ⟨g, 0, none⟩), y11, .pointer (some ⟨q, 0, none⟩), x13, .pointer (some ⟨h, 0, none⟩), x15, .int .i64 ((k : Int)), x17, x18, x19, x20, x21, y22, y23, y24, y25, y26, y27, y28, y29, y30, y31, y32, y33, y34, y35, y36, y37, y38, y39, y40, y41, y42, y43, y44, y45, y46, y47, y48, y49, y50, y51, y52, y53, y54, y55, y56, y57, y58, y59, y60, y61, y62, y63, y64, y65, y66, x67, x68, x69, x70, x71, x72, x73, x74, x75, x76, x77, x78, x79, x80, x81, x82, x83, x84, x85, x86, x87, x88, x89, x90, x91, x92, x93, x94, x95, x96, x97, x98, x99, x100, x101, x102, x103, x104, x105, x106, x107, x108, x109, x110, x111, x112, x113, x114, x115, x116, x117, x118, x119, x120, x121, x122, x123, x124, x125, x126, x127, x128, x129, x130, x131, x132, x133, x134, x135, x136, x137, x138, x139, x140, x141, x142, x143, x144, x145, x146, x147, x148, x149, x150, x151, x152, x153, x154, x155, x156, x157, x158, x159, x160, x161, x162, x163, x164, x165, x166, x167, x168, x169, x170, x171, x172, x173, x174, x175, x176, x177, x178, x179, x180, x181, x182, x183, x184, x185, x186, x187, x188, x189, x190, x191, x192, x193, x194, x195, x196, x197, x198, x199, x200, x201, x202, x203, x204, x205, x206, x207, x208, x209, x210, x211, x212, x213, x214, x215, x216, x217, x218, x219, x220, x221, x222, x223, x224, x225, x226, x227, x228, x229, x230, x231, x232, x233, x234, x235, x236, x237, x238, x239, x240, x241, x242, x243, x244, x245, x246, x247, x248, x249, x250, x251, x252, x253, x254, x255], []⟩ wr := by
  conv => arg 2; whnf
  have hki : (k : Int) < (n : Int) := by omega
  have hk30i : (k : Int) < 30 := by omega
  have hbb := Rd.bound hbs0
  have h60i : ¬ (60 : Int) < (bs.length : Int) := by omega
  obtain ⟨hlf, hln, hl64, hw64⟩ := SS.dfacts
  have hB := SS.low
  have RAe : Rw (wr.alloc (.cells #[Value.int .i64 K, .int .i64 N, .slice a' bs.length c'', .bool long] 59)) wr.heap.size [Value.int .i64 K, .int .i64 N, .slice a' bs.length c'', .bool long] 59 := rw_new wr [Value.int .i64 K, .int .i64 N, .slice a' bs.length c'', .bool long] _ rfl
  have hob := oneB' wr (.cells #[Value.int .i64 K, .int .i64 N, .slice a' bs.length c'', .bool long] 59)
  have Pe := P.below hob
  have SSe := SS.addX hob wr.heap.size (Nat.le_refl _) RAe.lt
  have Be := bel' hB hob hB.size
  have hjw : w.heap.size ≤ wr.heap.size := hB.size
  obtain ⟨we, hwe⟩ : ∃ we, wr.alloc (.cells #[Value.int .i64 K, .int .i64 N, .slice a' bs.length c'', .bool long] 59) = we := ⟨_, rfl⟩
  rw [hwe] at RAe Pe SSe Be
  have m0 := RAe.cell 0 _ rfl
  have m1 := RAe.cell 1 _ rfl
  have m2 := RAe.cell 2 _ rfl
  have m3 := RAe.cell 3 _ rfl
  have HL64 := Go.Lib.hid hl64; have HW64 := Go.Lib.hid hw64
  have hgh := P.gh
  have hwt := HB.wt
  clear hl64 hw64 hob P SS hB
  obtain ⟨R, hR⟩ : ∃ R, recM long bs = R := ⟨_, rfl⟩
  have hRl : R.length ≤ 420 := by rw [← hR]; exact recM_len long bs (by omega)
  have hRn : R ≠ [] → bs ≠ [] := by rintro h1 rfl; exact h1 (by rw [← hR]; cases long <;> rfl)
  have hrec := fun w1 (hb : Below w.heap.size w w1) => rec_any w1 K N a' c'' bs long (Rd.below hbs0 hb) (by omega)
  unfold RecR at hrec
  simp only [hR] at hrec
  have HREC := Go.Lib.hid hrec; have HRN := Go.Lib.hid hRn
  clear hrec hR hRn
  obtain ⟨D', S', xr, er, hM⟩ : ∃ D' S' xr er, appM D S R = (D', S', xr, er) := ⟨_, _, _, _, rfl⟩
  have hbn := HB.app R
  rw [hM] at hbn
  have HBN : Hid (Bd N0 (k + 1) D' S') := Go.Lib.hid hbn
  have hep := HB.ep; have hus := HB.us; have hll := HB.ll; have hsn := HB.n; have hsf := HB.frm
  have hra := fun v hd hs => rapp_any v (dvV D a1 c1 a2 c2) (svV S aL cL) D S R hd hs hlf.1 hlf.2 (by omega) (by omega) (by omega) (by omega) hep (by omega) (by omega)
  rw [hM] at hra
  unfold AppR dvV rdV svV sgL at hra
  simp only at hra
  have HRA := Go.Lib.hid hra
  have HM := Go.Lib.hid hM
  clear hbn hM hra
  go_wp2_with fail
  go_at_call 24
  refine (HREC.out _ Be).mono ?_
  rintro e w5 ⟨aR, cR, rfl, hrR, hb5, hlR⟩
  go_wp2_with fail
  have hqa := qh_app _ w we w5 q p D S aR R.length cR R SSe hb5 ⟨hrR, fun k o e hn => (hlR k o e).elim (fun h => .inl (hbs0.lt k o (h ▸ e) (by simpa using HRN.out hn))) .inr⟩ (by omega) (by omega)
  rw [HM.out] at hqa
  go_at_call 12
  refine hqa.mono ?_
  rintro e w6 ⟨rfl, SS6, K6⟩
  replace SS6 : SdH (Hb g h (dvV D a1 c1 a2 c2) (svV S aL cL) (fun k => k = wr.heap.size)) w w6 q p D' S' := SS6
  have P6 := (Pe.below hb5).keep K6 (fun k hk hn => hn hk)
  have RA6 := (RAe.below hb5).keep K6 (fun hn => hn (.inr (.inr (.inl rfl))))
  clear Pe SSe RAe Be m0 m1 m2 m3 K6 hb5 hrR hlR hqa
  go_wp2_with fail
  refine NB.wp_region_t [11, 12] (by kernel_rfl) ?_
  have P7 := P6.below (dB' _)
  have SS7 := SS6.below (dB' _)
  have RA7 := RA6.below (dB' _)
  clear P6 SS6 RA6
  generalize World.drew _ = w7 at *
  have B7 := SS7.low
  have hj7 := RA7.lt
  have rg7 : Rw w7 g [Value.slice a1 D.l.length c1, .slice a2 D.waits.length c2, .int .i64 D.left, .bool D.down] 50 := P7.rg
  have rh7 : Rw w7 h [Value.int .i64 (S.frm : Int), .int .i64 (S.n : Int), .int .u64 (S.epoch : Int), .slice aL S.l.length cL, .int .i64 (S.used : Int), .int .i64 (S.sure : Int), .int .i64 (S.gone : Int), .int .i64 S.e] 55 := P7.rh
  refine NB.t_r 0 [5, 6, 7, 8, 9, 10, 11, 12, 13, 14] rfl (by kernel_rfl) (by kernel_rfl) (by go_simp) _ (fun w' hw' => NB.run_op_load_agg (off := 0) (m := 4) rfl rfl Try.underlying50 rfl _ _ _ rg7 (by kernel_rfl) (Nat.le_refl _) _ rfl hw') (fun K hK => ?_); go_simp; refine hK _ ?_; clear hK K
  refine NB.t_r 1 [5, 6, 7, 8, 9, 10, 11, 12, 13, 14] rfl (by kernel_rfl) (by kernel_rfl) (by go_simp) _ (fun w' hw' => NB.run_op_load_agg (off := 0) (m := 8) rfl rfl Try.underlying55 rfl _ _ _ rh7 (by kernel_rfl) (Nat.le_refl _) _ rfl hw') (fun K hK => ?_); go_simp; refine hK _ ?_; clear hK K
  refine NB.t_r 2 [3, 4, 5, 6, 7, 8, 9, 10, 11, 12, 13, 14] rfl (by kernel_rfl) (by kernel_rfl) (by go_simp) _ (fun w' hw' => NB.run_op_load_agg (off := 0) (m := 4) rfl rfl Try.underlying59 rfl _ _ _ RA7 (by kernel_rfl) (Nat.le_refl _) _ rfl hw') (fun K hK => ?_); go_simp; refine hK _ ?_; clear hK K
  refine NB.t_e 3 rfl (by kernel_rfl) (by kernel_rfl) (fun K hK => ?_); unfold NB.tmoves; go_simp; refine (HREC.out _ B7).mono ?_; rintro e w8 ⟨aQ, cQ, rfl, hrQ, hb8, _⟩; refine ⟨_, rfl, hb8, hK _ _ ?_⟩; clear hK K
  refine NB.t_r 4 [5, 6, 7, 8, 9, 10, 11, 12, 13, 14] rfl (by kernel_rfl) (by kernel_rfl) (by go_simp) _ (fun w' hw' => NB.run_op_conv_str Try.underlying23 Try.underlying5 Try.underlying9 rfl rfl (Rd.below hrQ hw')) (fun K hK => ?_); go_simp; refine hK _ ?_; clear hK K
  have P8 := P7.below hb8
  refine NB.t_e 5 rfl (by kernel_rfl) (by kernel_rfl) (fun K hK => ?_); unfold NB.tmoves; go_simp; refine (HRA.out _ P8.rd P8.rs).mono ?_; rintro e w9 ⟨v9, s9, rfl, hv9, hs9, hb9, hl9, hls9⟩; refine ⟨_, rfl, hb9, hK _ _ ?_⟩; clear hK K
  have hv := hv9; have hs := hs9
  obtain ⟨e1, g1, e2, g2, rfl, _, _⟩ := hv
  obtain ⟨aM, cM, rfl, _⟩ := hs
  have P9 := P8.below hb9
  have hb79 := bel' hb8 hb9 hb8.size
  have hld : ∀ k, locR (dvV D' e1 g1 e2 g2) k → locR (dvV D a1 c1 a2 c2) k ∨ w7.heap.size ≤ k := fun k hk => (hl9 k hk).imp id (fun h => Nat.le_trans hb8.size h)
  have hls : ∀ k, locS (svV S' aM cM) k → locS (svV S aL cL) k ∨ w7.heap.size ≤ k := fun k hk => (hls9 k hk).imp id (fun h => Nat.le_trans hb8.size h)
  clear hl9 hls9 hb8 hb9 hrQ P8
  refine NB.t_p 6 rfl (by kernel_rfl) (fun K hK => ?_); go_simp; refine hK _ ?_; clear hK K
  refine NB.t_p 7 rfl (by kernel_rfl) (fun K hK => ?_); go_simp; refine hK _ ?_; clear hK K
  refine NB.t_p 8 rfl (by kernel_rfl) (fun K hK => ?_); go_simp; refine hK _ ?_; clear hK K
  refine NB.t_p 9 rfl (by kernel_rfl) (fun K hK => ?_); go_simp; refine hK _ ?_; clear hK K
  refine NB.t_p 10 rfl (by kernel_rfl) (fun K hK => ?_); go_simp; refine hK _ ?_; clear hK K
  refine NB.t_w 11 rfl (by kernel_rfl) (by kernel_rfl) rfl (fun Q' hK => ?_)
  refine NB.wpList_store_agg_any rfl 50 (.tmp 10) (.tmp 142) rfl rfl g 0 #[Value.slice e1 D'.l.length g1, .slice e2 D'.waits.length g2, .int .i64 D'.left, .bool D'.down] rfl rfl 50 #[Value.slice a1 D.l.length c1, .slice a2 D.waits.length c2, .int .i64 D.left, .bool D.down] P9.rg (by kernel_rfl) (Nat.le_refl _) (by intro v hv; simp only [List.mem_cons, List.not_mem_nil, or_false] at hv; rcases hv with rfl | rfl | rfl | rfl <;> rfl) _ rfl ?_
  intro w10 hg10 hc10 hs10
  have K10 := (NB.Kp.refl (fun k => k = g ∨ k = h) w9).grown hg10 (fun k e => .inl (.inl (by cases e; rfl)))
  have rg10 : Rw w10 g (dvL D' e1 g1 e2 g2) 50 := hc10
  have rh10 := P9.rh.keep ((NB.Kp.refl (fun k => k = g) w9).grown hg10 (fun k e => .inl (by cases e; rfl))) (fun e => hgh e.symm)
  refine hK _ _ ?_
  clear hK Q' hg10 hc10 hs10
  refine NB.t_w 12 rfl (by kernel_rfl) (by kernel_rfl) rfl (fun Q' hK => ?_)
  refine NB.wpList_store_agg_any rfl 55 (.tmp 14) (.tmp 143) rfl rfl h 0 #[Value.int .i64 (S'.frm : Int), .int .i64 (S'.n : Int), .int .u64 (S'.epoch : Int), .slice aM S'.l.length cM, .int .i64 (S'.used : Int), .int .i64 (S'.sure : Int), .int .i64 (S'.gone : Int), .int .i64 S'.e] rfl rfl 55 #[Value.int .i64 (S.frm : Int), .int .i64 (S.n : Int), .int .u64 (S.epoch : Int), .slice aL S.l.length cL, .int .i64 (S.used : Int), .int .i64 (S.sure : Int), .int .i64 (S.gone : Int), .int .i64 S.e] rh10 (by kernel_rfl) (Nat.le_refl _) (by intro v hv; simp only [List.mem_cons, List.not_mem_nil, or_false] at hv; rcases hv with rfl | rfl | rfl | rfl | rfl | rfl | rfl | rfl <;> rfl) _ rfl ?_
  intro w11 hg11 hc11 hs11
  have K11 := K10.grown hg11 (fun k e => .inl (.inr (by cases e; rfl)))
  have rg11 := rg10.keep ((NB.Kp.refl (fun k => k = h) w10).grown hg11 (fun k e => .inl (by cases e; rfl))) (fun e => hgh e)
  have rh11 : Rw w11 h (sgL S' aM cM) 55 := hc11
  refine hK _ _ ?_
  have P11 := P7.put hb79 hv9 hs9 hld hls rfl rfl K11 rg11 rh11
  have SS11 := P7.sdh SS7 hb79 K11 hld hls P11 (fun k hk => by subst hk; exact ⟨hjw, hj7⟩)
  clear hK Q' hg11 hc11 hs11 K10 K11 rg10 rh10 rg11 rh11 rg7 rh7 P7 SS7 RA7 P9 hv9 hs9 hld hls hb79 B7
  refine NB.t_p 13 rfl (by kernel_rfl) (fun K hK => ?_); go_simp; refine hK _ ?_; clear hK K
  refine NB.t_p 14 rfl (by kernel_rfl) (fun K hK => ?_); go_simp; refine hK _ ?_; clear hK K
  refine NB.t_end (by kernel_rfl) ?_
  have u0 := (show Rw _ g [Value.slice e1 D'.l.length g1, .slice e2 D'.waits.length g2, .int .i64 D'.left, .bool D'.down] 50 from P11.rg).cell 0 _ rfl
  have u1 := (show Rw _ g [Value.slice e1 D'.l.length g1, .slice e2 D'.waits.length g2, .int .i64 D'.left, .bool D'.down] 50 from P11.rg).cell 1 _ rfl
  have u2 := (show Rw _ g [Value.slice e1 D'.l.length g1, .slice e2 D'.waits.length g2, .int .i64 D'.left, .bool D'.down] 50 from P11.rg).cell 2 _ rfl
  have u3 := (show Rw _ g [Value.slice e1 D'.l.length g1, .slice e2 D'.waits.length g2, .int .i64 D'.left, .bool D'.down] 50 from P11.rg).cell 3 _ rfl
  go_wp2_with (first
    | (go_at_call 33; refine (SS11.ddh.alike P11.rd (by have := HBN.out.wt; omega)).mono ?_; rintro e wU ⟨rfl, hbU⟩; have PU := P11.below hbU; have SU := SS11.below hbU; clear u0 u1 u2 u3; have v0 := (show Rw _ h [Value.int .i64 (S'.frm : Int), .int .i64 (S'.n : Int), .int .u64 (S'.epoch : Int), .slice aM S'.l.length cM, .int .i64 (S'.used : Int), .int .i64 (S'.sure : Int), .int .i64 (S'.gone : Int), .int .i64 S'.e] 55 from PU.rh).cell 0 _ rfl; have v1 := (show Rw _ h [Value.int .i64 (S'.frm : Int), .int .i64 (S'.n : Int), .int .u64 (S'.epoch : Int), .slice aM S'.l.length cM, .int .i64 (S'.used : Int), .int .i64 (S'.sure : Int), .int .i64 (S'.gone : Int), .int .i64 S'.e] 55 from PU.rh).cell 1 _ rfl; have v2 := (show Rw _ h [Value.int .i64 (S'.frm : Int), .int .i64 (S'.n : Int), .int .u64 (S'.epoch : Int), .slice aM S'.l.length cM, .int .i64 (S'.used : Int), .int .i64 (S'.sure : Int), .int .i64 (S'.gone : Int), .int .i64 S'.e] 55 from PU.rh).cell 2 _ rfl; have v3 := (show Rw _ h [Value.int .i64 (S'.frm : Int), .int .i64 (S'.n : Int), .int .u64 (S'.epoch : Int), .slice aM S'.l.length cM, .int .i64 (S'.used : Int), .int .i64 (S'.sure : Int), .int .i64 (S'.gone : Int), .int .i64 S'.e] 55 from PU.rh).cell 3 _ rfl; have v4 := (show Rw _ h [Value.int .i64 (S'.frm : Int), .int .i64 (S'.n : Int), .int .u64 (S'.epoch : Int), .slice aM S'.l.length cM, .int .i64 (S'.used : Int), .int .i64 (S'.sure : Int), .int .i64 (S'.gone : Int), .int .i64 S'.e] 55 from PU.rh).cell 4 _ rfl; have v5 := (show Rw _ h [Value.int .i64 (S'.frm : Int), .int .i64 (S'.n : Int), .int .u64 (S'.epoch : Int), .slice aM S'.l.length cM, .int .i64 (S'.used : Int), .int .i64 (S'.sure : Int), .int .i64 (S'.gone : Int), .int .i64 S'.e] 55 from PU.rh).cell 5 _ rfl; have v6 := (show Rw _ h [Value.int .i64 (S'.frm : Int), .int .i64 (S'.n : Int), .int .u64 (S'.epoch : Int), .slice aM S'.l.length cM, .int .i64 (S'.used : Int), .int .i64 (S'.sure : Int), .int .i64 (S'.gone : Int), .int .i64 S'.e] 55 from PU.rh).cell 6 _ rfl; have v7 := (show Rw _ h [Value.int .i64 (S'.frm : Int), .int .i64 (S'.n : Int), .int .u64 (S'.epoch : Int), .slice aM S'.l.length cM, .int .i64 (S'.used : Int), .int .i64 (S'.sure : Int), .int .i64 (S'.gone : Int), .int .i64 S'.e] 55 from PU.rh).cell 7 _ rfl)
    | (go_at_call 34; refine (has_any _ _ _ q p _ _ _ SU PU.rs (by have := HBN.out.ll; have := HBN.out.us; have := HBN.out.n; omega) (fun b hb => by have := HBN.out.bl b hb; omega) (by have := HBN.out.n; omega) (by have := HBN.out.us; have := HBN.out.n; omega)).mono ?_; rintro e wV ⟨rfl, hbV⟩; have PV := PU.below hbV; have SW := (SU.below hbV).dropX))
  exact HEND.out _ _ _ _ _ _ _ _ _ _ _ _ _ _ _ _ _ _ _ _ _ _ _ _ _ _ _ _ _ _ _ _ _ _ _ _ _ _ _ _ _ _ _ _ _ _ _ _ _ _ _ _ _ _ _ _ _ _ _ _ _ _ _ _ _ _ _ _ _ _ _ _ _ _ _ _ _ _ _ _ _ _ _ _ _ _ _ _ _ _ _ _ _ _ _ _ _ _ _ _ _ _ _ _ _ _ _ _ _ _ _ _ _ _ _ _ _ _ _ _ _ _ _ _ _ _ _ _ _ _ _ _ _ _ _ _ _ _ _ _ _ _ _ _ _ _ _ _ _ _ _ _ _ _ _ _ _ _ _ _ _ _ _ _ _ _ _ _ _ _ _ _ _ _ _ _ _ _ _ _ _ _ _ _ _ _ _ _ _ _ _ _ _ _ _ _ _ q _ _ _ _ _ _ _ _ _ PV SW HBN.out

set_option maxRecDepth 100000 in
set_option maxHeartbeats 32000000 in
theorem spl_A1 (w wr : World) (p g h N0 n c0 b o : Nat) (frm : Int) (hN1 : 1 ≤ N0) (hN24 : N0 ≤ 24) (hf64 : I64 frm) (hbd : n ≤ 9223372036854775807 ∧ c0 ≤ 9223372036854775807) (hnc : n ≤ c0)
    (k q : Nat) (D : Dk) (S : Sg) (a1 : Option Addr) (c1 : Nat) (a2 : Option Addr) (c2 : Nat) (aL : Option Addr) (cL : Nat) (hlt : k < n) (hk30 : k < 30) (P : Ps w wr g h D S a1 c1 a2 c2 aL cL) (SS : SdH (Hb g h (dvV D a1 c1 a2 c2) (svV S aL cL) (fun _ => False)) w wr q p D S) (HB : Bd N0 k D S)
    (K N : Int) (long : Bool) (a' : Option Addr) (c'' : Nat) (bs : List UInt8) (wN : I64 N) (q0 : wr.cell? ⟨b, o + k * 4, none⟩ = some (.int .i64 K)) (q1 : wr.cell? ⟨b, o + k * 4 + 1, none⟩ = some (.int .i64 N)) (q2 : wr.cell? ⟨b, o + k * 4 + 2, none⟩ = some (.slice a' bs.length c'')) (q3 : wr.cell? ⟨b, o + k * 4 + 3, none⟩ = some (.bool long))
    (hbs0 : NB.RdB w a' bs.length c'' bs) (h60 : ¬ 60 < bs.length) (hkv : bits .and .i64 K 15 = 1)
    (y3 y4 y5 y7 y9 y11 y22 y23 y24 y25 y26 y27 y28 y29 y30 y31 y32 y33 y34 y35 y36 y37 y38 y39 y40 y41 y42 y43 y44 y45 y46 y47 y48 y49 y50 y51 y52 y53 y54 y55 y56 y57 y58 y59 y60 y61 y62 y63 y64 y65 y66 : Value) (x6 x13 x15 x17 x18 x19 x20 x21 x67 x68 x69 x70 x71 x72 x73 x74 x75 x76 x77 x78 x79 x80 x81 x82 x83 x84 x85 x86 x87 x88 x89 x90 x91 x92 x93 x94 x95 x96 x97 x98 x99 x100 x101 x102 x103 x104 x105 x106 x107 x108 x109 x110 x111 x112 x113 x114 x115 x116 x117 x118 x119 x120 x121 x122 x123 x124 x125 x126 x127 x128 x129 x130 x131 x132 x133 x134 x135 x136 x137 x138 x139 x140 x141 x142 x143 x144 x145 x146 x147 x148 x149 x150 x151 x152 x153 x154 x155 x156 x157 x158 x159 x160 x161 x162 x163 x164 x165 x166 x167 x168 x169 x170 x171 x172 x173 x174 x175 x176 x177 x178 x179 x180 x181 x182 x183 x184 x185 x186 x187 x188 x189 x190 x191 x192 x193 x194 x195 x196 x197 x198 x199 x200 x201 x202 x203 x204 x205 x206 x207 x208 x209 x210 x211 x212 x213 x214 x215 x216 x217 x218 x219 x220 x221 x222 x223 x224 x225 x226 x227 x228 x229 x230 x231 x232 x233 x234 x235 x236 x237 x238 x239 x240 x241 x242 x243 x244 x245 x246 x247 x248 x249 x250 x251 x252 x253 x254 x255 : Value) (KK : Act → World → Prop) (QQ : Exit → Act → World → Prop)
    (HEND : Hid (∀ (z6 z13 z15 z17 z18 z19 z20 z21 z67 z68 z69 z70 z71 z72 z73 z74 z75 z76 z77 z78 z79 z80 z81 z82 z83 z84 z85 z86 z87 z88 z89 z90 z91 z92 z93 z94 z95 z96 z97 z98 z99 z100 z101 z102 z103 z104 z105 z106 z107 z108 z109 z110 z111 z112 z113 z114 z115 z116 z117 z118 z119 z120 z121 z122 z123 z124 z125 z126 z127 z128 z129 z130 z131 z132 z133 z134 z135 z136 z137 z138 z139 z140 z141 z142 z143 z144 z145 z146 z147 z148 z149 z150 z151 z152 z153 z154 z155 z156 z157 z158 z159 z160 z161 z162 z163 z164 z165 z166 z167 z168 z169 z170 z171 z172 z173 z174 z175 z176 z177 z178 z179 z180 z181 z182 z183 z184 z185 z186 z187 z188 z189 z190 z191 z192 z193 z194 z195 z196 z197 z198 z199 z200 z201 z202 z203 z204 z205 z206 z207 z208 z209 z210 z211 z212 z213 z214 z215 z216 z217 z218 z219 z220 z221 z222 z223 z224 z225 z226 z227 z228 z229 z230 z231 z232 z233 z234 z235 z236 z237 z238 z239 z240 z241 z242 z243 z244 z245 z246 z247 z248 z249 z250 z251 z252 z253 z254 z255 : Value) (q : Nat) (D : Dk) (S : Sg) (a1 : Option Addr) (c1 : Nat) (a2 : Option Addr) (c2 : Nat) (aL : Option Addr) (cL : Nat) (v : World), Ps w v g h D S a1 c1 a2 c2 aL cL → SdH (Hb g h (dvV D a1 c1 a2 c2) (svV S aL cL) (fun _ => False)) w v q p D S → Bd N0 (k + 1) D S → KK ⟨#[.int .i64 (N0 : Int), .int .i64 frm, .slice (some ⟨b, o, none⟩) n c0, y3, y4, y5, z6, y7, .pointer (some ⟨p, 0, none⟩), y9, .pointer (some ⟨g, 0, none⟩), y11, .pointer (some ⟨q, 0, none⟩), z13, .pointer (some ⟨h, 0, none⟩), z15, .int .i64 ((k : Int) + 1), z17, z18, z19, z20, z21, y22, y23, y24, y25, y26, y27, y28, y29, y30, y31, y32, y33, y34, y35, y36, y37, y38, y39, y40, y41, y42, y43, y44, y45, y46, y47, y48, y49, y50, y51, y52, y53, y54, y55, y56, y57, y58, y59, y60, y61, y62, y63, y64, y65, y66, z67, z68, z69, z70, z71, z72, z73, z74, z75, z76, z77, z78, z79, z80, z81, z82, z83, z84, z85, z86, z87, z88, z89, z90, z91, z92, z93, z94, z95, z96, z97, z98, z99, z100, z101, z102, z103, z104, z105, z106, z107, z108, z109, z110, z111, z112, z113, z114, z115, z116, z117, z118, z119, z120, z121, z122, z123, z124, z125, z126, z127, z128, z129, z130, z131, z132, z133, z134, z135, z136, z137, z138, z139, z140, z141, z142, z143, z144, z145, z146, z147, z148, z149, z150, z151, z152, z153, z154, z155, z156, z157, z158, z159, z160, z161, z162, z163, z164, z165, z166, z167, z168, z169, z170, z171, z172, z173, z174, z175, z176, z177, z178, z179, z180, z181, z182, z183, z184, z185, z186, z187, z188, z189, z190, z191, z192, z193, z194, z195, z196, z197, z198, z199, z200, z201, z202, z203, z204, z205, z206, z207, z208, z209, z210, z211, z212, z213, z214, z215, z216, z217, z218, z219, z220, z221, z222, z223, z224, z225, z226, z227, z228, z229, z230, z231, z232, z233, z234, z235, z236, z237, z238, z239, z240, z241, z242, z243, z244, z245, z246, z247, z248, z249, z250, z251, z252, z253, z254, z255], []⟩ v)) :
    Code.wp Try.prog splBody (Exit.then KK QQ) ⟨#[.int .i64 (N0 : Int), .int .i64 frm, .slice (some ⟨b, o, none⟩) n c0, y3, y4, y5, x6, y7, .pointer (some ⟨p, 0, none⟩), y9, .pointer (some ⟨g, 0, none⟩), y11, .pointer (some ⟨q, 0, none⟩), x13, .pointer (some ⟨h, 0, none⟩), x15, .int .i64 ((k : Int)), x17, x18, x19, x20, x21, y22, y23, y24, y25, y26, y27, y28, y29, y30, y31, y32, y33, y34, y35, y36, y37, y38, y39, y40, y41, y42, y43, y44, y45, y46, y47, y48, y49, y50, y51, y52, y53, y54, y55, y56, y57, y58, y59, y60, y61, y62, y63, y64, y65, y66, x67, x68, x69, x70, x71, x72, x73, x74, x75, x76, x77, x78, x79, x80, x81, x82, x83, x84, x85, x86, x87, x88, x89, x90, x91, x92, x93, x94, x95, x96, x97, x98, x99, x100, x101, x102, x103, x104, x105, x106, x107, x108, x109, x110, x111, x112, x113, x114, x115, x116, x117, x118, x119, x120, x121, x122, x123, x124, x125, x126, x127, x128, x129, x130, x131, x132, x133, x134, x135, x136, x137, x138, x139, x140, x141, x142, x143, x144, x145, x146, x147, x148, x149, x150, x151, x152, x153, x154, x155, x156, x157, x158, x159, x160, x161, x162, x163, x164, x165, x166, x167, x168, x169, x170, x171, x172, x173, x174, x175, x176, x177, x178, x179, x180, x181, x182, x183, x184, x185, x186, x187, x188, x189, x190, x191, x192, x193, x194, x195, x196, x197, x198, x199, x200, x201, x202, x203, x204, x205, x206, x207, x208, x209, x210, x211, x212, x213, x214, x215, x216, x217, x218, x219, x220, x221, x222, x223, x224, x225, x226, x227, x228, x229, x230, x231, x232, x233, x234, x235, x236, x237, x238, x239, x240, x241, x242, x243, x244, x245, x246, x247, x248, x249, x250, x251, x252, x253, x254, x255], []⟩ wr := by
  conv => arg 2; whnf
  have hki : (k : Int) < (n : Int) := by omega
  have hk30i : (k : Int) < 30 := by omega
  have hbb := Rd.bound hbs0
  have h60i : ¬ (60 : Int) < (bs.length : Int) := by omega
  obtain ⟨hlf, hln, hl64, hw64⟩ := SS.dfacts
  have hB := SS.low
  have RAe : Rw (wr.alloc (.cells #[Value.int .i64 K, .int .i64 N, .slice a' bs.length c'', .bool long] 59)) wr.heap.size [Value.int .i64 K, .int .i64 N, .slice a' bs.length c'', .bool long] 59 := rw_new wr [Value.int .i64 K, .int .i64 N, .slice a' bs.length c'', .bool long] _ rfl
  have hob := oneB' wr (.cells #[Value.int .i64 K, .int .i64 N, .slice a' bs.length c'', .bool long] 59)
  have Pe := P.below hob
  have SSe := SS.addX hob wr.heap.size (Nat.le_refl _) RAe.lt
  have Be := bel' hB hob hB.size
  have hjw : w.heap.size ≤ wr.heap.size := hB.size
  obtain ⟨we, hwe⟩ : ∃ we, wr.alloc (.cells #[Value.int .i64 K, .int .i64 N, .slice a' bs.length c'', .bool long] 59) = we := ⟨_, rfl⟩
  rw [hwe] at RAe Pe SSe Be
  have m0 := RAe.cell 0 _ rfl
  have m1 := RAe.cell 1 _ rfl
  have m2 := RAe.cell 2 _ rfl
  have m3 := RAe.cell 3 _ rfl
  have HL64 := Go.Lib.hid hl64; have HW64 := Go.Lib.hid hw64
  have hgh := P.gh
  have hwt := HB.wt
  clear hl64 hw64 hob P SS hB
  obtain ⟨R, hR⟩ : ∃ R, recM long bs = R := ⟨_, rfl⟩
  have hRl : R.length ≤ 420 := by rw [← hR]; exact recM_len long bs (by omega)
  have hRn : R ≠ [] → bs ≠ [] := by rintro h1 rfl; exact h1 (by rw [← hR]; cases long <;> rfl)
  have hrec := fun w1 (hb : Below w.heap.size w w1) => rec_any w1 K N a' c'' bs long (Rd.below hbs0 hb) (by omega)
  unfold RecR at hrec
  simp only [hR] at hrec
  have HREC := Go.Lib.hid hrec; have HRN := Go.Lib.hid hRn
  clear hrec hR hRn
  obtain ⟨D', S', xr, er, hM⟩ : ∃ D' S' xr er, appM D S R = (D', S', xr, er) := ⟨_, _, _, _, rfl⟩
  have hbn := HB.app R
  rw [hM] at hbn
  have HBN : Hid (Bd N0 (k + 1) D' S') := Go.Lib.hid hbn
  have hep := HB.ep; have hus := HB.us; have hll := HB.ll; have hsn := HB.n; have hsf := HB.frm
  have hra := fun v hd hs => rapp_any v (dvV D a1 c1 a2 c2) (svV S aL cL) D S R hd hs hlf.1 hlf.2 (by omega) (by omega) (by omega) (by omega) hep (by omega) (by omega)
  rw [hM] at hra
  unfold AppR dvV rdV svV sgL at hra
  simp only at hra
  have HRA := Go.Lib.hid hra
  have HM := Go.Lib.hid hM
  clear hbn hM hra
  go_wp2_with fail
  go_at_call 24
  refine (HREC.out _ Be).mono ?_
  rintro e w5 ⟨aR, cR, rfl, hrR, hb5, hlR⟩
  go_wp2_with fail
  have hqa := qh_app _ w we w5 q p D S aR R.length cR R SSe hb5 ⟨hrR, fun k o e hn => (hlR k o e).elim (fun h => .inl (hbs0.lt k o (h ▸ e) (by simpa using HRN.out hn))) .inr⟩ (by omega) (by omega)
  rw [HM.out] at hqa
  go_at_call 12
  refine hqa.mono ?_
  rintro e w6 ⟨rfl, SS6, K6⟩
  replace SS6 : SdH (Hb g h (dvV D a1 c1 a2 c2) (svV S aL cL) (fun k => k = wr.heap.size)) w w6 q p D' S' := SS6
  have P6 := (Pe.below hb5).keep K6 (fun k hk hn => hn hk)
  have RA6 := (RAe.below hb5).keep K6 (fun hn => hn (.inr (.inr (.inl rfl))))
  clear Pe SSe RAe Be m0 m1 m2 m3 K6 hb5 hrR hlR hqa
  go_wp2_with fail
  refine NB.wp_region_t [11, 12] (by kernel_rfl) ?_
  have P7 := P6.below (dB' _)
  have SS7 := SS6.below (dB' _)
  have RA7 := RA6.below (dB' _)
  clear P6 SS6 RA6
  generalize World.drew _ = w7 at *
  have B7 := SS7.low
  have hj7 := RA7.lt
  have rg7 : Rw w7 g [Value.slice a1 D.l.length c1, .slice a2 D.waits.length c2, .int .i64 D.left, .bool D.down] 50 := P7.rg
  have rh7 : Rw w7 h [Value.int .i64 (S.frm : Int), .int .i64 (S.n : Int), .int .u64 (S.epoch : Int), .slice aL S.l.length cL, .int .i64 (S.used : Int), .int .i64 (S.sure : Int), .int .i64 (S.gone : Int), .int .i64 S.e] 55 := P7.rh
  refine NB.t_r 0 [5, 6, 7, 8, 9, 10, 11, 12, 13, 14] rfl (by kernel_rfl) (by kernel_rfl) (by go_simp) _ (fun w' hw' => NB.run_op_load_agg (off := 0) (m := 4) rfl rfl Try.underlying50 rfl _ _ _ rg7 (by kernel_rfl) (Nat.le_refl _) _ rfl hw') (fun K hK => ?_); go_simp; refine hK _ ?_; clear hK K
  refine NB.t_r 1 [5, 6, 7, 8, 9, 10, 11, 12, 13, 14] rfl (by kernel_rfl) (by kernel_rfl) (by go_simp) _ (fun w' hw' => NB.run_op_load_agg (off := 0) (m := 8) rfl rfl Try.underlying55 rfl _ _ _ rh7 (by kernel_rfl) (Nat.le_refl _) _ rfl hw') (fun K hK => ?_); go_simp; refine hK _ ?_; clear hK K
  refine NB.t_r 2 [3, 4, 5, 6, 7, 8, 9, 10, 11, 12, 13, 14] rfl (by kernel_rfl) (by kernel_rfl) (by go_simp) _ (fun w' hw' => NB.run_op_load_agg (off := 0) (m := 4) rfl rfl Try.underlying59 rfl _ _ _ RA7 (by kernel_rfl) (Nat.le_refl _) _ rfl hw') (fun K hK => ?_); go_simp; refine hK _ ?_; clear hK K
  refine NB.t_e 3 rfl (by kernel_rfl) (by kernel_rfl) (fun K hK => ?_); unfold NB.tmoves; go_simp; refine (HREC.out _ B7).mono ?_; rintro e w8 ⟨aQ, cQ, rfl, hrQ, hb8, _⟩; refine ⟨_, rfl, hb8, hK _ _ ?_⟩; clear hK K
  refine NB.t_r 4 [5, 6, 7, 8, 9, 10, 11, 12, 13, 14] rfl (by kernel_rfl) (by kernel_rfl) (by go_simp) _ (fun w' hw' => NB.run_op_conv_str Try.underlying23 Try.underlying5 Try.underlying9 rfl rfl (Rd.below hrQ hw')) (fun K hK => ?_); go_simp; refine hK _ ?_; clear hK K
  have P8 := P7.below hb8
  refine NB.t_e 5 rfl (by kernel_rfl) (by kernel_rfl) (fun K hK => ?_); unfold NB.tmoves; go_simp; refine (HRA.out _ P8.rd P8.rs).mono ?_; rintro e w9 ⟨v9, s9, rfl, hv9, hs9, hb9, hl9, hls9⟩; refine ⟨_, rfl, hb9, hK _ _ ?_⟩; clear hK K
  have hv := hv9; have hs := hs9
  obtain ⟨e1, g1, e2, g2, rfl, _, _⟩ := hv
  obtain ⟨aM, cM, rfl, _⟩ := hs
  have P9 := P8.below hb9
  have hb79 := bel' hb8 hb9 hb8.size
  have hld : ∀ k, locR (dvV D' e1 g1 e2 g2) k → locR (dvV D a1 c1 a2 c2) k ∨ w7.heap.size ≤ k := fun k hk => (hl9 k hk).imp id (fun h => Nat.le_trans hb8.size h)
  have hls : ∀ k, locS (svV S' aM cM) k → locS (svV S aL cL) k ∨ w7.heap.size ≤ k := fun k hk => (hls9 k hk).imp id (fun h => Nat.le_trans hb8.size h)
  clear hl9 hls9 hb8 hb9 hrQ P8
  refine NB.t_p 6 rfl (by kernel_rfl) (fun K hK => ?_); go_simp; refine hK _ ?_; clear hK K
  refine NB.t_p 7 rfl (by kernel_rfl) (fun K hK => ?_); go_simp; refine hK _ ?_; clear hK K
  refine NB.t_p 8 rfl (by kernel_rfl) (fun K hK => ?_); go_simp; refine hK _ ?_; clear hK K
  refine NB.t_p 9 rfl (by kernel_rfl) (fun K hK => ?_); go_simp; refine hK _ ?_; clear hK K
  refine NB.t_p 10 rfl (by kernel_rfl) (fun K hK => ?_); go_simp; refine hK _ ?_; clear hK K
  refine NB.t_w 11 rfl (by kernel_rfl) (by kernel_rfl) rfl (fun Q' hK => ?_)
  refine NB.wpList_store_agg_any rfl 50 (.tmp 10) (.tmp 142) rfl rfl g 0 #[Value.slice e1 D'.l.length g1, .slice e2 D'.waits.length g2, .int .i64 D'.left, .bool D'.down] rfl rfl 50 #[Value.slice a1 D.l.length c1, .slice a2 D.waits.length c2, .int .i64 D.left, .bool D.down] P9.rg (by kernel_rfl) (Nat.le_refl _) (by intro v hv; simp only [List.mem_cons, List.not_mem_nil, or_false] at hv; rcases hv with rfl | rfl | rfl | rfl <;> rfl) _ rfl ?_
  intro w10 hg10 hc10 hs10
  have K10 := (NB.Kp.refl (fun k => k = g ∨ k = h) w9).grown hg10 (fun k e => .inl (.inl (by cases e; rfl)))
  have rg10 : Rw w10 g (dvL D' e1 g1 e2 g2) 50 := hc10
  have rh10 := P9.rh.keep ((NB.Kp.refl (fun k => k = g) w9).grown hg10 (fun k e => .inl (by cases e; rfl))) (fun e => hgh e.symm)
  refine hK _ _ ?_
  clear hK Q' hg10 hc10 hs10
  refine NB.t_w 12 rfl (by kernel_rfl) (by kernel_rfl) rfl (fun Q' hK => ?_)
  refine NB.wpList_store_agg_any rfl 55 (.tmp 14) (.tmp 143) rfl rfl h 0 #[Value.int .i64 (S'.frm : Int), .int .i64 (S'.n : Int), .int .u64 (S'.epoch : Int), .slice aM S'.l.length cM, .int .i64 (S'.used : Int), .int .i64 (S'.sure : Int), .int .i64 (S'.gone : Int), .int .i64 S'.e] rfl rfl 55 #[Value.int .i64 (S.frm : Int), .int .i64 (S.n : Int), .int .u64 (S.epoch : Int), .slice aL S.l.length cL, .int .i64 (S.used : Int), .int .i64 (S.sure : Int), .int .i64 (S.gone : Int), .int .i64 S.e] rh10 (by kernel_rfl) (Nat.le_refl _) (by intro v hv; simp only [List.mem_cons, List.not_mem_nil, or_false] at hv; rcases hv with rfl | rfl | rfl | rfl | rfl | rfl | rfl | rfl <;> rfl) _ rfl ?_
  intro w11 hg11 hc11 hs11
  have K11 := K10.grown hg11 (fun k e => .inl (.inr (by cases e; rfl)))
  have rg11 := rg10.keep ((NB.Kp.refl (fun k => k = h) w10).grown hg11 (fun k e => .inl (by cases e; rfl))) (fun e => hgh e)
  have rh11 : Rw w11 h (sgL S' aM cM) 55 := hc11
  refine hK _ _ ?_
  have P11 := P7.put hb79 hv9 hs9 hld hls rfl rfl K11 rg11 rh11
  have SS11 := P7.sdh SS7 hb79 K11 hld hls P11 (fun k hk => by subst hk; exact ⟨hjw, hj7⟩)
  clear hK Q' hg11 hc11 hs11 K10 K11 rg10 rh10 rg11 rh11 rg7 rh7 P7 SS7 RA7 P9 hv9 hs9 hld hls hb79 B7
  refine NB.t_p 13 rfl (by kernel_rfl) (fun K hK => ?_); go_simp; refine hK _ ?_; clear hK K
  refine NB.t_p 14 rfl (by kernel_rfl) (fun K hK => ?_); go_simp; refine hK _ ?_; clear hK K
  refine NB.t_end (by kernel_rfl) ?_
  have u0 := (show Rw _ g [Value.slice e1 D'.l.length g1, .slice e2 D'.waits.length g2, .int .i64 D'.left, .bool D'.down] 50 from P11.rg).cell 0 _ rfl
  have u1 := (show Rw _ g [Value.slice e1 D'.l.length g1, .slice e2 D'.waits.length g2, .int .i64 D'.left, .bool D'.down] 50 from P11.rg).cell 1 _ rfl
  have u2 := (show Rw _ g [Value.slice e1 D'.l.length g1, .slice e2 D'.waits.length g2, .int .i64 D'.left, .bool D'.down] 50 from P11.rg).cell 2 _ rfl
  have u3 := (show Rw _ g [Value.slice e1 D'.l.length g1, .slice e2 D'.waits.length g2, .int .i64 D'.left, .bool D'.down] 50 from P11.rg).cell 3 _ rfl
  go_wp2_with (first
    | (go_at_call 33; refine (SS11.ddh.alike P11.rd (by have := HBN.out.wt; omega)).mono ?_; rintro e wU ⟨rfl, hbU⟩; have PU := P11.below hbU; have SU := SS11.below hbU; clear u0 u1 u2 u3; have v0 := (show Rw _ h [Value.int .i64 (S'.frm : Int), .int .i64 (S'.n : Int), .int .u64 (S'.epoch : Int), .slice aM S'.l.length cM, .int .i64 (S'.used : Int), .int .i64 (S'.sure : Int), .int .i64 (S'.gone : Int), .int .i64 S'.e] 55 from PU.rh).cell 0 _ rfl; have v1 := (show Rw _ h [Value.int .i64 (S'.frm : Int), .int .i64 (S'.n : Int), .int .u64 (S'.epoch : Int), .slice aM S'.l.length cM, .int .i64 (S'.used : Int), .int .i64 (S'.sure : Int), .int .i64 (S'.gone : Int), .int .i64 S'.e] 55 from PU.rh).cell 1 _ rfl; have v2 := (show Rw _ h [Value.int .i64 (S'.frm : Int), .int .i64 (S'.n : Int), .int .u64 (S'.epoch : Int), .slice aM S'.l.length cM, .int .i64 (S'.used : Int), .int .i64 (S'.sure : Int), .int .i64 (S'.gone : Int), .int .i64 S'.e] 55 from PU.rh).cell 2 _ rfl; have v3 := (show Rw _ h [Value.int .i64 (S'.frm : Int), .int .i64 (S'.n : Int), .int .u64 (S'.epoch : Int), .slice aM S'.l.length cM, .int .i64 (S'.used : Int), .int .i64 (S'.sure : Int), .int .i64 (S'.gone : Int), .int .i64 S'.e] 55 from PU.rh).cell 3 _ rfl; have v4 := (show Rw _ h [Value.int .i64 (S'.frm : Int), .int .i64 (S'.n : Int), .int .u64 (S'.epoch : Int), .slice aM S'.l.length cM, .int .i64 (S'.used : Int), .int .i64 (S'.sure : Int), .int .i64 (S'.gone : Int), .int .i64 S'.e] 55 from PU.rh).cell 4 _ rfl; have v5 := (show Rw _ h [Value.int .i64 (S'.frm : Int), .int .i64 (S'.n : Int), .int .u64 (S'.epoch : Int), .slice aM S'.l.length cM, .int .i64 (S'.used : Int), .int .i64 (S'.sure : Int), .int .i64 (S'.gone : Int), .int .i64 S'.e] 55 from PU.rh).cell 5 _ rfl; have v6 := (show Rw _ h [Value.int .i64 (S'.frm : Int), .int .i64 (S'.n : Int), .int .u64 (S'.epoch : Int), .slice aM S'.l.length cM, .int .i64 (S'.used : Int), .int .i64 (S'.sure : Int), .int .i64 (S'.gone : Int), .int .i64 S'.e] 55 from PU.rh).cell 6 _ rfl; have v7 := (show Rw _ h [Value.int .i64 (S'.frm : Int), .int .i64 (S'.n : Int), .int .u64 (S'.epoch : Int), .slice aM S'.l.length cM, .int .i64 (S'.used : Int), .int .i64 (S'.sure : Int), .int .i64 (S'.gone : Int), .int .i64 S'.e] 55 from PU.rh).cell 7 _ rfl)
    | (go_at_call 34; refine (has_any _ _ _ q p _ _ _ SU PU.rs (by have := HBN.out.ll; have := HBN.out.us; have := HBN.out.n; omega) (fun b hb => by have := HBN.out.bl b hb; omega) (by have := HBN.out.n; omega) (by have := HBN.out.us; have := HBN.out.n; omega)).mono ?_; rintro e wV ⟨rfl, hbV⟩; have PV := PU.below hbV; have SW := (SU.below hbV).dropX))
  exact HEND.out _ _ _ _ _ _ _ _ _ _ _ _ _ _ _ _ _ _ _ _ _ _ _ _ _ _ _ _ _ _ _ _ _ _ _ _ _ _ _ _ _ _ _ _ _ _ _ _ _ _ _ _ _ _ _ _ _ _ _ _ _ _ _ _ _ _ _ _ _ _ _ _ _ _ _ _ _ _ _ _ _ _ _ _ _ _ _ _ _ _ _ _ _ _ _ _ _ _ _ _ _ _ _ _ _ _ _ _ _ _ _ _ _ _ _ _ _ _ _ _ _ _ _ _ _ _ _ _ _ _ _ _ _ _ _ _ _ _ _ _ _ _ _ _ _ _ _ _ _ _ _ _ _ _ _ _ _ _ _ _ _ _ _ _ _ _ _ _ _ _ _ _ _ _ _ _ _ _ _ _ _ _ _ _ _ _ _ _ _ _ _ _ _ _ _ _ _ q _ _ _ _ _ _ _ _ _ PV SW HBN.out
end Go.Proofs.Ytmgkaoenjnnlmaa
namespace Go.Proofs.Ytmgkaoenjnnlmaa
open Go.RowKit
open Go.NB.Crc
open Go.NB (Rd Dk Kp Stp Off Dis val I64)

set_option maxRecDepth 100000 in
set_option maxHeartbeats 32000000 in
theorem spl_A2 (w wr : World) (p g h N0 n c0 b o : Nat) (frm : Int) (hN1 : 1 ≤ N0) (hN24 : N0 ≤ 24) (hf64 : I64 frm) (hbd : n ≤ 9223372036854775807 ∧ c0 ≤ 9223372036854775807) (hnc : n ≤ c0)
    (k q : Nat) (D : Dk) (S : Sg) (a1 : Option Addr) (c1 : Nat) (a2 : Option Addr) (c2 : Nat) (aL : Option Addr) (cL : Nat) (hlt : k < n) (hk30 : k < 30) (P : Ps w wr g h D S a1 c1 a2 c2 aL cL) (SS : SdH (Hb g h (dvV D a1 c1 a2 c2) (svV S aL cL) (fun _ => False)) w wr q p D S) (HB : Bd N0 k D S)
    (K N : Int) (long : Bool) (a' : Option Addr) (c'' : Nat) (bs : List UInt8) (wN : I64 N) (q0 : wr.cell? ⟨b, o + k * 4, none⟩ = some (.int .i64 K)) (q1 : wr.cell? ⟨b, o + k * 4 + 1, none⟩ = some (.int .i64 N)) (q2 : wr.cell? ⟨b, o + k * 4 + 2, none⟩ = some (.slice a' bs.length c'')) (q3 : wr.cell? ⟨b, o + k * 4 + 3, none⟩ = some (.bool long))
    (hbs0 : NB.RdB w a' bs.length c'' bs) (h60 : ¬ 60 < bs.length) (hkv : bits .and .i64 K 15 = 2)
    (y3 y4 y5 y7 y9 y11 y22 y23 y24 y25 y26 y27 y28 y29 y30 y31 y32 y33 y34 y35 y36 y37 y38 y39 y40 y41 y42 y43 y44 y45 y46 y47 y48 y49 y50 y51 y52 y53 y54 y55 y56 y57 y58 y59 y60 y61 y62 y63 y64 y65 y66 : Value) (x6 x13 x15 x17 x18 x19 x20 x21 x67 x68 x69 x70 x71 x72 x73 x74 x75 x76 x77 x78 x79 x80 x81 x82 x83 x84 x85 x86 x87 x88 x89 x90 x91 x92 x93 x94 x95 x96 x97 x98 x99 x100 x101 x102 x103 x104 x105 x106 x107 x108 x109 x110 x111 x112 x113 x114 x115 x116 x117 x118 x119 x120 x121 x122 x123 x124 x125 x126 x127 x128 x129 x130 x131 x132 x133 x134 x135 x136 x137 x138 x139 x140 x141 x142 x143 x144 x145 x146 x147 x148 x149 x150 x151 x152 x153 x154 x155 x156 x157 x158 x159 x160 x161 x162 x163 x164 x165 x166 x167 x168 x169 x170 x171 x172 x173 x174 x175 x176 x177 x178 x179 x180 x181 x182 x183 x184 x185 x186 x187 x188 x189 x190 x191 x192 x193 x194 x195 x196 x197 x198 x199 x200 x201 x202 x203 x204 x205 x206 x207 x208 x209 x210 x211 x212 x213 x214 x215 x216 x217 x218 x219 x220 x221 x222 x223 x224 x225 x226 x227 x228 x229 x230 x231 x232 x233 x234 x235 x236 x237 x238 x239 x240 x241 x242 x243 x244 x245 x246 x247 x248 x249 x250 x251 x252 x253 x254 x255 : Value) (KK : Act → World → Prop) (QQ : Exit → Act → World → Prop)
    (HEND : Hid (∀ (z6 z13 z15 z17 z18 z19 z20 z21 z67 z68 z69 z70 z71 z72 z73 z74 z75 z76 z77 z78 z79 z80 z81 z82 z83 z84 z85 z86 z87 z88 z89 z90 z91 z92 z93 z94 z95 z96 z97 z98 z99 z100 z101 z102 z103 z104 z105 z106 z107 z108 z109 z110 z111 z112 z113 z114 z115 z116 z117 z118 z119 z120 z121 z122 z123 z124 z125 z126 z127 z128 z129 z130 z131 z132 z133 z134 z135 z136 z137 z138 z139 z140 z141 z142 z143 z144 z145 z146 z147 z148 z149 z150 z151 z152 z153 z154 z155 z156 z157 z158 z159 z160 z161 z162 z163 z164 z165 z166 z167 z168 z169 z170 z171 z172 z173 z174 z175 z176 z177 z178 z179 z180 z181 z182 z183 z184 z185 z186 z187 z188 z189 z190 z191 z192 z193 z194 z195 z196 z197 z198 z199 z200 z201 z202 z203 z204 z205 z206 z207 z208 z209 z210 z211 z212 z213 z214 z215 z216 z217 z218 z219 z220 z221 z222 z223 z224 z225 z226 z227 z228 z229 z230 z231 z232 z233 z234 z235 z236 z237 z238 z239 z240 z241 z242 z243 z244 z245 z246 z247 z248 z249 z250 z251 z252 z253 z254 z255 : Value) (q : Nat) (D : Dk) (S : Sg) (a1 : Option Addr) (c1 : Nat) (a2 : Option Addr) (c2 : Nat) (aL : Option Addr) (cL : Nat) (v : World), Ps w v g h D S a1 c1 a2 c2 aL cL → SdH (Hb g h (dvV D a1 c1 a2 c2) (svV S aL cL) (fun _ => False)) w v q p D S → Bd N0 (k + 1) D S → KK ⟨#[.int .i64 (N0 : Int), .int .i64 frm, .slice (some ⟨b, o, none⟩) n c0, y3, y4, y5, z6, y7, .pointer (some ⟨p, 0, none⟩), y9, .pointer (some ⟨g, 0, none⟩), y11, .pointer (some ⟨q, 0, none⟩), z13, .pointer (some ⟨h, 0, none⟩), z15, .int .i64 ((k : Int) + 1), z17, z18, z19, z20, z21, y22, y23, y24, y25, y26, y27, y28, y29, y30, y31, y32, y33, y34, y35, y36, y37, y38, y39, y40, y41, y42, y43, y44, y45, y46, y47, y48, y49, y50, y51, y52, y53, y54, y55, y56, y57, y58, y59, y60, y61, y62, y63, y64, y65, y66, z67, z68, z69, z70, z71, z72, z73, z74, z75, z76, z77, z78, z79, z80, z81, z82, z83, z84, z85, z86, z87, z88, z89, z90, z91, z92, z93, z94, z95, z96, z97, z98, z99, z100, z101, z102, z103, z104, z105, z106, z107, z108, z109, z110, z111, z112, z113, z114, z115, z116, z117, z118, z119, z120, z121, z122, z123, z124, z125, z126, z127, z128, z129, z130, z131, z132, z133, z134, z135, z136, z137, z138, z139, z140, z141, z142, z143, z144, z145, z146, z147, z148, z149, z150, z151, z152, z153, z154, z155, z156, z157, z158, z159, z160, z161, z162, z163, z164, z165, z166, z167, z168, z169, z170, z171, z172, z173, z174, z175, z176, z177, z178, z179, z180, z181, z182, z183, z184, z185, z186, z187, z188, z189, z190, z191, z192, z193, z194, z195, z196, z197, z198, z199, z200, z201, z202, z203, z204, z205, z206, z207, z208, z209, z210, z211, z212, z213, z214, z215, z216, z217, z218, z219, z220, z221, z222, z223, z224, z225, z226, z227, z228, z229, z230, z231, z232, z233, z234, z235, z236, z237, z238, z239, z240, z241, z242, z243, z244, z245, z246, z247, z248, z249, z250, z251, z252, z253, z254, z255], []⟩ v)) :
    Code.wp Try.prog splBody (Exit.then KK QQ) ⟨#[.int .i64 (N0 : Int), .int .i64 frm, .slice (some ⟨b, o, none⟩) n c0, y3, y4, y5, x6, y7, .pointer (some ⟨p, 0, none⟩), y9, .pointer (some ⟨g, 0, none⟩), y11, .pointer (some ⟨q, 0, none⟩), x13, .pointer (some ⟨h, 0, none⟩), x15, .int .i64 ((k : Int)), x17, x18, x19, x20, x21, y22, y23, y24, y25, y26, y27, y28, y29, y30, y31, y32, y33, y34, y35, y36, y37, y38, y39, y40, y41, y42, y43, y44, y45, y46, y47, y48, y49, y50, y51, y52, y53, y54, y55, y56, y57, y58, y59, y60, y61, y62, y63, y64, y65, y66, x67, x68, x69, x70, x71, x72, x73, x74, x75, x76, x77, x78, x79, x80, x81, x82, x83, x84, x85, x86, x87, x88, x89, x90, x91, x92, x93, x94, x95, x96, x97, x98, x99, x100, x101, x102, x103, x104, x105, x106, x107, x108, x109, x110, x111, x112, x113, x114, x115, x116, x117, x118, x119, x120, x121, x122, x123, x124, x125, x126, x127, x128, x129, x130, x131, x132, x133, x134, x135, x136, x137, x138, x139, x140, x141, x142, x143, x144, x145, x146, x147, x148, x149, x150, x151, x152, x153, x154, x155, x156, x157, x158, x159, x160, x161, x162, x163, x164, x165, x166, x167, x168, x169, x170, x171, x172, x173, x174, x175, x176, x177, x178, x179, x180, x181, x182, x183, x184, x185, x186, x187, x188, x189, x190, x191, x192, x193, x194, x195, x196, x197, x198, x199, x200, x201, x202, x203, x204, x205, x206, x207, x208, x209, x210, x211, x212, x213, x214, x215, x216, x217, x218, x219, x220, x221, x222, x223, x224, x225, x226, x227, x228, x229, x230, x231, x232, x233, x234, x235, x236, x237, x238, x239, x240, x241, x242, x243, x244, x245, x246, x247, x248, x249, x250, x251, x252, x253, x254, x255], []⟩ wr := by
  conv => arg 2; whnf
  have hki : (k : Int) < (n : Int) := by omega
  have hk30i : (k : Int) < 30 := by omega
  have hbb := Rd.bound hbs0
  have h60i : ¬ (60 : Int) < (bs.length : Int) := by omega
  obtain ⟨hlf, hln, hl64, hw64⟩ := SS.dfacts
  have hB := SS.low
  have RAe : Rw (wr.alloc (.cells #[Value.int .i64 K, .int .i64 N, .slice a' bs.length c'', .bool long] 59)) wr.heap.size [Value.int .i64 K, .int .i64 N, .slice a' bs.length c'', .bool long] 59 := rw_new wr [Value.int .i64 K, .int .i64 N, .slice a' bs.length c'', .bool long] _ rfl
  have hob := oneB' wr (.cells #[Value.int .i64 K, .int .i64 N, .slice a' bs.length c'', .bool long] 59)
  have Pe := P.below hob
  have SSe := SS.addX hob wr.heap.size (Nat.le_refl _) RAe.lt
  have Be := bel' hB hob hB.size
  have hjw : w.heap.size ≤ wr.heap.size := hB.size
  obtain ⟨we, hwe⟩ : ∃ we, wr.alloc (.cells #[Value.int .i64 K, .int .i64 N, .slice a' bs.length c'', .bool long] 59) = we := ⟨_, rfl⟩
  rw [hwe] at RAe Pe SSe Be
  have m0 := RAe.cell 0 _ rfl
  have m1 := RAe.cell 1 _ rfl
  have m2 := RAe.cell 2 _ rfl
  have m3 := RAe.cell 3 _ rfl
  have HL64 := Go.Lib.hid hl64; have HW64 := Go.Lib.hid hw64
  have hgh := P.gh
  have hwt := HB.wt
  clear hl64 hw64 hob P SS hB
  obtain ⟨R, hR⟩ : ∃ R, recM long bs = R := ⟨_, rfl⟩
  have hRl : R.length ≤ 420 := by rw [← hR]; exact recM_len long bs (by omega)
  have hRn : R ≠ [] → bs ≠ [] := by rintro h1 rfl; exact h1 (by rw [← hR]; cases long <;> rfl)
  have hrec := fun w1 (hb : Below w.heap.size w w1) => rec_any w1 K N a' c'' bs long (Rd.below hbs0 hb) (by omega)
  unfold RecR at hrec
  simp only [hR] at hrec
  have HREC := Go.Lib.hid hrec; have HRN := Go.Lib.hid hRn
  clear hrec hR hRn
  obtain ⟨D', S', xr, er, hM⟩ : ∃ D' S' xr er, appM D S R = (D', S', xr, er) := ⟨_, _, _, _, rfl⟩
  have hbn := HB.app R
  rw [hM] at hbn
  have HBN : Hid (Bd N0 (k + 1) D' S') := Go.Lib.hid hbn
  have hep := HB.ep; have hus := HB.us; have hll := HB.ll; have hsn := HB.n; have hsf := HB.frm
  have hra := fun v hd hs => rapp_any v (dvV D a1 c1 a2 c2) (svV S aL cL) D S R hd hs hlf.1 hlf.2 (by omega) (by omega) (by omega) (by omega) hep (by omega) (by omega)
  rw [hM] at hra
  unfold AppR dvV rdV svV sgL at hra
  simp only at hra
  have HRA := Go.Lib.hid hra
  have HM := Go.Lib.hid hM
  clear hbn hM hra
  go_wp2_with fail
  go_at_call 24
  refine (HREC.out _ Be).mono ?_
  rintro e w5 ⟨aR, cR, rfl, hrR, hb5, hlR⟩
  go_wp2_with fail
  have hqa := qh_app _ w we w5 q p D S aR R.length cR R SSe hb5 ⟨hrR, fun k o e hn => (hlR k o e).elim (fun h => .inl (hbs0.lt k o (h ▸ e) (by simpa using HRN.out hn))) .inr⟩ (by omega) (by omega)
  rw [HM.out] at hqa
  go_at_call 12
  refine hqa.mono ?_
  rintro e w6 ⟨rfl, SS6, K6⟩
  replace SS6 : SdH (Hb g h (dvV D a1 c1 a2 c2) (svV S aL cL) (fun k => k = wr.heap.size)) w w6 q p D' S' := SS6
  have P6 := (Pe.below hb5).keep K6 (fun k hk hn => hn hk)
  have RA6 := (RAe.below hb5).keep K6 (fun hn => hn (.inr (.inr (.inl rfl))))
  clear Pe SSe RAe Be m0 m1 m2 m3 K6 hb5 hrR hlR hqa
  go_wp2_with fail
  refine NB.wp_region_t [11, 12] (by kernel_rfl) ?_
  have P7 := P6.below (dB' _)
  have SS7 := SS6.below (dB' _)
  have RA7 := RA6.below (dB' _)
  clear P6 SS6 RA6
  generalize World.drew _ = w7 at *
  have B7 := SS7.low
  have hj7 := RA7.lt
  have rg7 : Rw w7 g [Value.slice a1 D.l.length c1, .slice a2 D.waits.length c2, .int .i64 D.left, .bool D.down] 50 := P7.rg
  have rh7 : Rw w7 h [Value.int .i64 (S.frm : Int), .int .i64 (S.n : Int), .int .u64 (S.epoch : Int), .slice aL S.l.length cL, .int .i64 (S.used : Int), .int .i64 (S.sure : Int), .int .i64 (S.gone : Int), .int .i64 S.e] 55 := P7.rh
  refine NB.t_r 0 [5, 6, 7, 8, 9, 10, 11, 12, 13, 14] rfl (by kernel_rfl) (by kernel_rfl) (by go_simp) _ (fun w' hw' => NB.run_op_load_agg (off := 0) (m := 4) rfl rfl Try.underlying50 rfl _ _ _ rg7 (by kernel_rfl) (Nat.le_refl _) _ rfl hw') (fun K hK => ?_); go_simp; refine hK _ ?_; clear hK K
  refine NB.t_r 1 [5, 6, 7, 8, 9, 10, 11, 12, 13, 14] rfl (by kernel_rfl) (by kernel_rfl) (by go_simp) _ (fun w' hw' => NB.run_op_load_agg (off := 0) (m := 8) rfl rfl Try.underlying55 rfl _ _ _ rh7 (by kernel_rfl) (Nat.le_refl _) _ rfl hw') (fun K hK => ?_); go_simp; refine hK _ ?_; clear hK K
  refine NB.t_r 2 [3, 4, 5, 6, 7, 8, 9, 10, 11, 12, 13, 14] rfl (by kernel_rfl) (by kernel_rfl) (by go_simp) _ (fun w' hw' => NB.run_op_load_agg (off := 0) (m := 4) rfl rfl Try.underlying59 rfl _ _ _ RA7 (by kernel_rfl) (Nat.le_refl _) _ rfl hw') (fun K hK => ?_); go_simp; refine hK _ ?_; clear hK K
  refine NB.t_e 3 rfl (by kernel_rfl) (by kernel_rfl) (fun K hK => ?_); unfold NB.tmoves; go_simp; refine (HREC.out _ B7).mono ?_; rintro e w8 ⟨aQ, cQ, rfl, hrQ, hb8, _⟩; refine ⟨_, rfl, hb8, hK _ _ ?_⟩; clear hK K
  refine NB.t_r 4 [5, 6, 7, 8, 9, 10, 11, 12, 13, 14] rfl (by kernel_rfl) (by kernel_rfl) (by go_simp) _ (fun w' hw' => NB.run_op_conv_str Try.underlying23 Try.underlying5 Try.underlying9 rfl rfl (Rd.below hrQ hw')) (fun K hK => ?_); go_simp; refine hK _ ?_; clear hK K
  have P8 := P7.below hb8
  refine NB.t_e 5 rfl (by kernel_rfl) (by kernel_rfl) (fun K hK => ?_); unfold NB.tmoves; go_simp; refine (HRA.out _ P8.rd P8.rs).mono ?_; rintro e w9 ⟨v9, s9, rfl, hv9, hs9, hb9, hl9, hls9⟩; refine ⟨_, rfl, hb9, hK _ _ ?_⟩; clear hK K
  have hv := hv9; have hs := hs9
  obtain ⟨e1, g1, e2, g2, rfl, _, _⟩ := hv
  obtain ⟨aM, cM, rfl, _⟩ := hs
  have P9 := P8.below hb9
  have hb79 := bel' hb8 hb9 hb8.size
  have hld : ∀ k, locR (dvV D' e1 g1 e2 g2) k → locR (dvV D a1 c1 a2 c2) k ∨ w7.heap.size ≤ k := fun k hk => (hl9 k hk).imp id (fun h => Nat.le_trans hb8.size h)
  have hls : ∀ k, locS (svV S' aM cM) k → locS (svV S aL cL) k ∨ w7.heap.size ≤ k := fun k hk => (hls9 k hk).imp id (fun h => Nat.le_trans hb8.size h)
  clear hl9 hls9 hb8 hb9 hrQ P8
  refine NB.t_p 6 rfl (by kernel_rfl) (fun K hK => ?_); go_simp; refine hK _ ?_; clear hK K
  refine NB.t_p 7 rfl (by kernel_rfl) (fun K hK => ?_); go_simp; refine hK _ ?_; clear hK K
  refine NB.t_p 8 rfl (by kernel_rfl) (fun K hK => ?_); go_simp; refine hK _ ?_; clear hK K
  refine NB.t_p 9 rfl (by kernel_rfl) (fun K hK => ?_); go_simp; refine hK _ ?_; clear hK K
  refine NB.t_p 10 rfl (by kernel_rfl) (fun K hK => ?_); go_simp; refine hK _ ?_; clear hK K
  refine NB.t_w 11 rfl (by kernel_rfl) (by kernel_rfl) rfl (fun Q' hK => ?_)
  refine NB.wpList_store_agg_any rfl 50 (.tmp 10) (.tmp 142) rfl rfl g 0 #[Value.slice e1 D'.l.length g1, .slice e2 D'.waits.length g2, .int .i64 D'.left, .bool D'.down] rfl rfl 50 #[Value.slice a1 D.l.length c1, .slice a2 D.waits.length c2, .int .i64 D.left, .bool D.down] P9.rg (by kernel_rfl) (Nat.le_refl _) (by intro v hv; simp only [List.mem_cons, List.not_mem_nil, or_false] at hv; rcases hv with rfl | rfl | rfl | rfl <;> rfl) _ rfl ?_
  intro w10 hg10 hc10 hs10
  have K10 := (NB.Kp.refl (fun k => k = g ∨ k = h) w9).grown hg10 (fun k e => .inl (.inl (by cases e; rfl)))
  have rg10 : Rw w10 g (dvL D' e1 g1 e2 g2) 50 := hc10
  have rh10 := P9.rh.keep ((NB.Kp.refl (fun k => k = g) w9).grown hg10 (fun k e => .inl (by cases e; rfl))) (fun e => hgh e.symm)
  refine hK _ _ ?_
  clear hK Q' hg10 hc10 hs10
  refine NB.t_w 12 rfl (by kernel_rfl) (by kernel_rfl) rfl (fun Q' hK => ?_)
  refine NB.wpList_store_agg_any rfl 55 (.tmp 14) (.tmp 143) rfl rfl h 0 #[Value.int .i64 (S'.frm : Int), .int .i64 (S'.n : Int), .int .u64 (S'.epoch : Int), .slice aM S'.l.length cM, .int .i64 (S'.used : Int), .int .i64 (S'.sure : Int), .int .i64 (S'.gone : Int), .int .i64 S'.e] rfl rfl 55 #[Value.int .i64 (S.frm : Int), .int .i64 (S.n : Int), .int .u64 (S.epoch : Int), .slice aL S.l.length cL, .int .i64 (S.used : Int), .int .i64 (S.sure : Int), .int .i64 (S.gone : Int), .int .i64 S.e] rh10 (by kernel_rfl) (Nat.le_refl _) (by intro v hv; simp only [List.mem_cons, List.not_mem_nil, or_false] at hv; rcases hv with rfl | rfl | rfl | rfl | rfl | rfl | rfl | rfl <;> rfl) _ rfl ?_
  intro w11 hg11 hc11 hs11
  have K11 := K10.grown hg11 (fun k e => .inl (.inr (by cases e; rfl)))
  have rg11 := rg10.keep ((NB.Kp.refl (fun k => k = h) w10).grown hg11 (fun k e => .inl (by cases e; rfl))) (fun e => hgh e)
  have rh11 : Rw w11 h (sgL S' aM cM) 55 := hc11
  refine hK _ _ ?_
  have P11 := P7.put hb79 hv9 hs9 hld hls rfl rfl K11 rg11 rh11
  have SS11 := P7.sdh SS7 hb79 K11 hld hls P11 (fun k hk => by subst hk; exact ⟨hjw, hj7⟩)
  clear hK Q' hg11 hc11 hs11 K10 K11 rg10 rh10 rg11 rh11 rg7 rh7 P7 SS7 RA7 P9 hv9 hs9 hld hls hb79 B7
  refine NB.t_p 13 rfl (by kernel_rfl) (fun K hK => ?_); go_simp; refine hK _ ?_; clear hK K
  refine NB.t_p 14 rfl (by kernel_rfl) (fun K hK => ?_); go_simp; refine hK _ ?_; clear hK K
  refine NB.t_end (by kernel_rfl) ?_
  have u0 := (show Rw _ g [Value.slice e1 D'.l.length g1, .slice e2 D'.waits.length g2, .int .i64 D'.left, .bool D'.down] 50 from P11.rg).cell 0 _ rfl
  have u1 := (show Rw _ g [Value.slice e1 D'.l.length g1, .slice e2 D'.waits.length g2, .int .i64 D'.left, .bool D'.down] 50 from P11.rg).cell 1 _ rfl
  have u2 := (show Rw _ g [Value.slice e1 D'.l.length g1, .slice e2 D'.waits.length g2, .int .i64 D'.left, .bool D'.down] 50 from P11.rg).cell 2 _ rfl
  have u3 := (show Rw _ g [Value.slice e1 D'.l.length g1, .slice e2 D'.waits.length g2, .int .i64 D'.left, .bool D'.down] 50 from P11.rg).cell 3 _ rfl
  go_wp2_with (first
    | (go_at_call 33; refine (SS11.ddh.alike P11.rd (by have := HBN.out.wt; omega)).mono ?_; rintro e wU ⟨rfl, hbU⟩; have PU := P11.below hbU; have SU := SS11.below hbU; clear u0 u1 u2 u3; have v0 := (show Rw _ h [Value.int .i64 (S'.frm : Int), .int .i64 (S'.n : Int), .int .u64 (S'.epoch : Int), .slice aM S'.l.length cM, .int .i64 (S'.used : Int), .int .i64 (S'.sure : Int), .int .i64 (S'.gone : Int), .int .i64 S'.e] 55 from PU.rh).cell 0 _ rfl; have v1 := (show Rw _ h [Value.int .i64 (S'.frm : Int), .int .i64 (S'.n : Int), .int .u64 (S'.epoch : Int), .slice aM S'.l.length cM, .int .i64 (S'.used : Int), .int .i64 (S'.sure : Int), .int .i64 (S'.gone : Int), .int .i64 S'.e] 55 from PU.rh).cell 1 _ rfl; have v2 := (show Rw _ h [Value.int .i64 (S'.frm : Int), .int .i64 (S'.n : Int), .int .u64 (S'.epoch : Int), .slice aM S'.l.length cM, .int .i64 (S'.used : Int), .int .i64 (S'.sure : Int), .int .i64 (S'.gone : Int), .int .i64 S'.e] 55 from PU.rh).cell 2 _ rfl; have v3 := (show Rw _ h [Value.int .i64 (S'.frm : Int), .int .i64 (S'.n : Int), .int .u64 (S'.epoch : Int), .slice aM S'.l.length cM, .int .i64 (S'.used : Int), .int .i64 (S'.sure : Int), .int .i64 (S'.gone : Int), .int .i64 S'.e] 55 from PU.rh).cell 3 _ rfl; have v4 := (show Rw _ h [Value.int .i64 (S'.frm : Int), .int .i64 (S'.n : Int), .int .u64 (S'.epoch : Int), .slice aM S'.l.length cM, .int .i64 (S'.used : Int), .int .i64 (S'.sure : Int), .int .i64 (S'.gone : Int), .int .i64 S'.e] 55 from PU.rh).cell 4 _ rfl; have v5 := (show Rw _ h [Value.int .i64 (S'.frm : Int), .int .i64 (S'.n : Int), .int .u64 (S'.epoch : Int), .slice aM S'.l.length cM, .int .i64 (S'.used : Int), .int .i64 (S'.sure : Int), .int .i64 (S'.gone : Int), .int .i64 S'.e] 55 from PU.rh).cell 5 _ rfl; have v6 := (show Rw _ h [Value.int .i64 (S'.frm : Int), .int .i64 (S'.n : Int), .int .u64 (S'.epoch : Int), .slice aM S'.l.length cM, .int .i64 (S'.used : Int), .int .i64 (S'.sure : Int), .int .i64 (S'.gone : Int), .int .i64 S'.e] 55 from PU.rh).cell 6 _ rfl; have v7 := (show Rw _ h [Value.int .i64 (S'.frm : Int), .int .i64 (S'.n : Int), .int .u64 (S'.epoch : Int), .slice aM S'.l.length cM, .int .i64 (S'.used : Int), .int .i64 (S'.sure : Int), .int .i64 (S'.gone : Int), .int .i64 S'.e] 55 from PU.rh).cell 7 _ rfl)
    | (go_at_call 34; refine (has_any _ _ _ q p _ _ _ SU PU.rs (by have := HBN.out.ll; have := HBN.out.us; have := HBN.out.n; omega) (fun b hb => by have := HBN.out.bl b hb; omega) (by have := HBN.out.n; omega) (by have := HBN.out.us; have := HBN.out.n; omega)).mono ?_; rintro e wV ⟨rfl, hbV⟩; have PV := PU.below hbV; have SW := (SU.below hbV).dropX))
  exact HEND.out _ _ _ _ _ _ _ _ _ _ _ _ _ _ _ _ _ _ _ _ _ _ _ _ _ _ _ _ _ _ _ _ _ _ _ _ _ _ _ _ _ _ _ _ _ _ _ _ _ _ _ _ _ _ _ _ _ _ _ _ _ _ _ _ _ _ _ _ _ _ _ _ _ _ _ _ _ _ _ _ _ _ _ _ _ _ _ _ _ _ _ _ _ _ _ _ _ _ _ _ _ _ _ _ _ _ _ _ _ _ _ _ _ _ _ _ _ _ _ _ _ _ _ _ _ _ _ _ _ _ _ _ _ _ _ _ _ _ _ _ _ _ _ _ _ _ _ _ _ _ _ _ _ _ _ _ _ _ _ _ _ _ _ _ _ _ _ _ _ _ _ _ _ _ _ _ _ _ _ _ _ _ _ _ _ _ _ _ _ _ _ _ _ _ _ _ _ q _ _ _ _ _ _ _ _ _ PV SW HBN.out

set_option maxRecDepth 100000 in
set_option maxHeartbeats 32000000 in
theorem spl_A3 (w wr : World) (p g h N0 n c0 b o : Nat) (frm : Int) (hN1 : 1 ≤ N0) (hN24 : N0 ≤ 24) (hf64 : I64 frm) (hbd : n ≤ 9223372036854775807 ∧ c0 ≤ 9223372036854775807) (hnc : n ≤ c0)
    (k q : Nat) (D : Dk) (S : Sg) (a1 : Option Addr) (c1 : Nat) (a2 : Option Addr) (c2 : Nat) (aL : Option Addr) (cL : Nat) (hlt : k < n) (hk30 : k < 30) (P : Ps w wr g h D S a1 c1 a2 c2 aL cL) (SS : SdH (Hb g h (dvV D a1 c1 a2 c2) (svV S aL cL) (fun _ => False)) w wr q p D S) (HB : Bd N0 k D S)
    (K N : Int) (long : Bool) (a' : Option Addr) (c'' : Nat) (bs : List UInt8) (wN : I64 N) (q0 : wr.cell? ⟨b, o + k * 4, none⟩ = some (.int .i64 K)) (q1 : wr.cell? ⟨b, o + k * 4 + 1, none⟩ = some (.int .i64 N)) (q2 : wr.cell? ⟨b, o + k * 4 + 2, none⟩ = some (.slice a' bs.length c'')) (q3 : wr.cell? ⟨b, o + k * 4 + 3, none⟩ = some (.bool long))
    (hbs0 : NB.RdB w a' bs.length c'' bs) (h60 : ¬ 60 < bs.length) (hkv : bits .and .i64 K 15 = 3)
    (y3 y4 y5 y7 y9 y11 y22 y23 y24 y25 y26 y27 y28 y29 y30 y31 y32 y33 y34 y35 y36 y37 y38 y39 y40 y41 y42 y43 y44 y45 y46 y47 y48 y49 y50 y51 y52 y53 y54 y55 y56 y57 y58 y59 y60 y61 y62 y63 y64 y65 y66 : Value) (x6 x13 x15 x17 x18 x19 x20 x21 x67 x68 x69 x70 x71 x72 x73 x74 x75 x76 x77 x78 x79 x80 x81 x82 x83 x84 x85 x86 x87 x88 x89 x90 x91 x92 x93 x94 x95 x96 x97 x98 x99 x100 x101 x102 x103 x104 x105 x106 x107 x108 x109 x110 x111 x112 x113 x114 x115 x116 x117 x118 x119 x120 x121 x122 x123 x124 x125 x126 x127 x128 x129 x130 x131 x132 x133 x134 x135 x136 x137 x138 x139 x140 x141 x142 x143 x144 x145 x146 x147 x148 x149 x150 x151 x152 x153 x154 x155 x156 x157 x158 x159 x160 x161 x162 x163 x164 x165 x166 x167 x168 x169 x170 x171 x172 x173 x174 x175 x176 x177 x178 x179 x180 x181 x182 x183 x184 x185 x186 x187 x188 x189 x190 x191 x192 x193 x194 x195 x196 x197 x198 x199 x200 x201 x202 x203 x204 x205 x206 x207 x208 x209 x210 x211 x212 x213 x214 x215 x216 x217 x218 x219 x220 x221 x222 x223 x224 x225 x226 x227 x228 x229 x230 x231 x232 x233 x234 x235 x236 x237 x238 x239 x240 x241 x242 x243 x244 x245 x246 x247 x248 x249 x250 x251 x252 x253 x254 x255 : Value) (KK : Act → World → Prop) (QQ : Exit → Act → World → Prop)
    (HEND : Hid (∀ (z6 z13 z15 z17 z18 z19 z20 z21 z67 z68 z69 z70 z71 z72 z73 z74 z75 z76 z77 z78 z79 z80 z81 z82 z83 z84 z85 z86 z87 z88 z89 z90 z91 z92 z93 z94 z95 z96 z97 z98 z99 z100 z101 z102 z103 z104 z105 z106 z107 z108 z109 z110 z111 z112 z113 z114 z115 z116 z117 z118 z119 z120 z121 z122 z123 z124 z125 z126 z127 z128 z129 z130 z131 z132 z133 z134 z135 z136 z137 z138 z139 z140 z141 z142 z143 z144 z145 z146 z147 z148 z149 z150 z151 z152 z153 z154 z155 z156 z157 z158 z159 z160 z161 z162 z163 z164 z165 z166 z167 z168 z169 z170 z171 z172 z173 z174 z175 z176 z177 z178 z179 z180 z181 z182 z183 z184 z185 z186 z187 z188 z189 z190 z191 z192 z193 z194 z195 z196 z197 z198 z199 z200 z201 z202 z203 z204 z205 z206 z207 z208 z209 z210 z211 z212 z213 z214 z215 z216 z217 z218 z219 z220 z221 z222 z223 z224 z225 z226 z227 z228 z229 z230 z231 z232 z233 z234 z235 z236 z237 z238 z239 z240 z241 z242 z243 z244 z245 z246 z247 z248 z249 z250 z251 z252 z253 z254 z255 : Value) (q : Nat) (D : Dk) (S : Sg) (a1 : Option Addr) (c1 : Nat) (a2 : Option Addr) (c2 : Nat) (aL : Option Addr) (cL : Nat) (v : World), Ps w v g h D S a1 c1 a2 c2 aL cL → SdH (Hb g h (dvV D a1 c1 a2 c2) (svV S aL cL) (fun _ => False)) w v q p D S → Bd N0 (k + 1) D S → KK ⟨#[.int .i64 (N0 : Int), .int .i64 frm, .slice (some ⟨b, o, none⟩) n c0, y3, y4, y5, z6, y7, .pointer (some ⟨p, 0, none⟩), y9, .pointer (some ⟨g, 0, none⟩), y11, .pointer (some ⟨q, 0, none⟩), z13, .pointer (some ⟨h, 0, none⟩), z15, .int .i64 ((k : Int) + 1), z17, z18, z19, z20, z21, y22, y23, y24, y25, y26, y27, y28, y29, y30, y31, y32, y33, y34, y35, y36, y37, y38, y39, y40, y41, y42, y43, y44, y45, y46, y47, y48, y49, y50, y51, y52, y53, y54, y55, y56, y57, y58, y59, y60, y61, y62, y63, y64, y65, y66, z67, z68, z69, z70, z71, z72, z73, z74, z75, z76, z77, z78, z79, z80, z81, z82, z83, z84, z85, z86, z87, z88, z89, z90, z91, z92, z93, z94, z95, z96, z97, z98, z99, z100, z101, z102, z103, z104, z105, z106, z107, z108, z109, z110, z111, z112, z113, z114, z115, z116, z117, z118, z119, z120, z121, z122, z123, z124, z125, z126, z127, z128, z129, z130, z131, z132, z133, z134, z135, z136, z137, z138, z139, z140, z141, z142, z143, z144, z145, z146, z147, z148, z149, z150, z151, z152, z153, z154, z155, z156, z157, z158, z159, z160, z161, z162, z163, z164, z165, z166, z167, z168, z169, z170, z171, z172, z173, z174, z175, z176, z177, z178, z179, z180, z181, z182, z183, z184, z185, z186, z187, z188, z189, z190, z191, z192, z193, z194, z195, z196, z197, z198, z199, z200, z201, z202, z203, z204, z205, z206, z207, z208, z209, z210, z211, z212, z213, z214, z215, z216, z217, z218, z219, z220, z221, z222, z223, z224, z225, z226, z227, z228, z229, z230, z231, z232, z233, z234, z235, z236, z237, z238, z239, z240, z241, z242, z243, z244, z245, z246, z247, z248, z249, z250, z251, z252, z253, z254, z255], []⟩ v)) :
    Code.wp Try.prog splBody (Exit.then KK QQ) ⟨#[.int .i64 (N0 : Int), .int .i64 frm, .slice (some ⟨b, o, none⟩) n c0, y3, y4, y5, x6, y7, .pointer (some ⟨p, 0, none⟩), y9, .pointer (some ⟨g, 0, none⟩), y11, .pointer (some ⟨q, 0, none⟩), x13, .pointer (some ⟨h, 0, none⟩), x15, .int .i64 ((k : Int)), x17, x18, x19, x20, x21, y22, y23, y24, y25, y26, y27, y28, y29, y30, y31, y32, y33, y34, y35, y36, y37, y38, y39, y40, y41, y42, y43, y44, y45, y46, y47, y48, y49, y50, y51, y52, y53, y54, y55, y56, y57, y58, y59, y60, y61, y62, y63, y64, y65, y66, x67, x68, x69, x70, x71, x72, x73, x74, x75, x76, x77, x78, x79, x80, x81, x82, x83, x84, x85, x86, x87, x88, x89, x90, x91, x92, x93, x94, x95, x96, x97, x98, x99, x100, x101, x102, x103, x104, x105, x106, x107, x108, x109, x110, x111, x112, x113, x114, x115, x116, x117, x118, x119, x120, x121, x122, x123, x124, x125, x126, x127, x128, x129, x130, x131, x132, x133, x134, x135, x136, x137, x138, x139, x140, x141, x142, x143, x144, x145, x146, x147, x148, x149, x150, x151, x152, x153, x154, x155, x156, x157, x158, x159, x160, x161, x162, x163, x164, x165, x166, x167, x168, x169, x170, x171, x172, x173, x174, x175, x176, x177, x178, x179, x180, x181, x182, x183, x184, x185, x186, x187, x188, x189, x190, x191, x192, x193, x194, x195, x196, x197, x198, x199, x200, x201, x202, x203, x204, x205, x206, x207, x208, x209, x210, x211, x212, x213, x214, x215, x216, x217, x218, x219, x220, x221, x222, x223, x224, x225, x226, x227, x228, x229, x230, x231, x232, x233, x234, x235, x236, x237, x238, x239, x240, x241, x242, x243, x244, x245, x246, x247, x248, x249, x250, x251, x252, x253, x254, x255], []⟩ wr := by
  conv => arg 2; whnf
  have hki : (k : Int) < (n : Int) := by omega
  have hk30i : (k : Int) < 30 := by omega
  have hbb := Rd.bound hbs0
  have h60i : ¬ (60 : Int) < (bs.length : Int) := by omega
  obtain ⟨hlf, hln, hl64, hw64⟩ := SS.dfacts
  have hB := SS.low
  have RAe : Rw (wr.alloc (.cells #[Value.int .i64 K, .int .i64 N, .slice a' bs.length c'', .bool long] 59)) wr.heap.size [Value.int .i64 K, .int .i64 N, .slice a' bs.length c'', .bool long] 59 := rw_new wr [Value.int .i64 K, .int .i64 N, .slice a' bs.length c'', .bool long] _ rfl
  have hob := oneB' wr (.cells #[Value.int .i64 K, .int .i64 N, .slice a' bs.length c'', .bool long] 59)
  have Pe := P.below hob
  have SSe := SS.addX hob wr.heap.size (Nat.le_refl _) RAe.lt
  have Be := bel' hB hob hB.size
  have hjw : w.heap.size ≤ wr.heap.size := hB.size
  obtain ⟨we, hwe⟩ : ∃ we, wr.alloc (.cells #[Value.int .i64 K, .int .i64 N, .slice a' bs.length c'', .bool long] 59) = we := ⟨_, rfl⟩
  rw [hwe] at RAe Pe SSe Be
  have m0 := RAe.cell 0 _ rfl
  have m1 := RAe.cell 1 _ rfl
  have m2 := RAe.cell 2 _ rfl
  have m3 := RAe.cell 3 _ rfl
  have HL64 := Go.Lib.hid hl64; have HW64 := Go.Lib.hid hw64
  have hgh := P.gh
  have hwt := HB.wt
  clear hl64 hw64 hob P SS hB
  obtain ⟨R, hR⟩ : ∃ R, recM long bs = R := ⟨_, rfl⟩
  have hRl : R.length ≤ 420 := by rw [← hR]; exact recM_len long bs (by omega)
  have hRn : R ≠ [] → bs ≠ [] := by rintro h1 rfl; exact h1 (by rw [← hR]; cases long <;> rfl)
  have hrec := fun w1 (hb : Below w.heap.size w w1) => rec_any w1 K N a' c'' bs long (Rd.below hbs0 hb) (by omega)
  unfold RecR at hrec
  simp only [hR] at hrec
  have HREC := Go.Lib.hid hrec; have HRN := Go.Lib.hid hRn
  clear hrec hR hRn
  obtain ⟨D', S', xr, er, hM⟩ : ∃ D' S' xr er, appM D S R = (D', S', xr, er) := ⟨_, _, _, _, rfl⟩
  have hbn := HB.app R
  rw [hM] at hbn
  have HBN : Hid (Bd N0 (k + 1) D' S') := Go.Lib.hid hbn
  have hep := HB.ep; have hus := HB.us; have hll := HB.ll; have hsn := HB.n; have hsf := HB.frm
  have hra := fun v hd hs => rapp_any v (dvV D a1 c1 a2 c2) (svV S aL cL) D S R hd hs hlf.1 hlf.2 (by omega) (by omega) (by omega) (by omega) hep (by omega) (by omega)
  rw [hM] at hra
  unfold AppR dvV rdV svV sgL at hra
  simp only at hra
  have HRA := Go.Lib.hid hra
  have HM := Go.Lib.hid hM
  clear hbn hM hra
  go_wp2_with fail
  go_at_call 24
  refine (HREC.out _ Be).mono ?_
  rintro e w5 ⟨aR, cR, rfl, hrR, hb5, hlR⟩
  go_wp2_with fail
  have hqa := qh_app _ w we w5 q p D S aR R.length cR R SSe hb5 ⟨hrR, fun k o e hn => (hlR k o e).elim (fun h => .inl (hbs0.lt k o (h ▸ e) (by simpa using HRN.out hn))) .inr⟩ (by omega) (by omega)
  rw [HM.out] at hqa
  go_at_call 12
  refine hqa.mono ?_
  rintro e w6 ⟨rfl, SS6, K6⟩
  replace SS6 : SdH (Hb g h (dvV D a1 c1 a2 c2) (svV S aL cL) (fun k => k = wr.heap.size)) w w6 q p D' S' := SS6
  have P6 := (Pe.below hb5).keep K6 (fun k hk hn => hn hk)
  have RA6 := (RAe.below hb5).keep K6 (fun hn => hn (.inr (.inr (.inl rfl))))
  clear Pe SSe RAe Be m0 m1 m2 m3 K6 hb5 hrR hlR hqa
  go_wp2_with fail
  refine NB.wp_region_t [11, 12] (by kernel_rfl) ?_
  have P7 := P6.below (dB' _)
  have SS7 := SS6.below (dB' _)
  have RA7 := RA6.below (dB' _)
  clear P6 SS6 RA6
  generalize World.drew _ = w7 at *
  have B7 := SS7.low
  have hj7 := RA7.lt
  have rg7 : Rw w7 g [Value.slice a1 D.l.length c1, .slice a2 D.waits.length c2, .int .i64 D.left, .bool D.down] 50 := P7.rg
  have rh7 : Rw w7 h [Value.int .i64 (S.frm : Int), .int .i64 (S.n : Int), .int .u64 (S.epoch : Int), .slice aL S.l.length cL, .int .i64 (S.used : Int), .int .i64 (S.sure : Int), .int .i64 (S.gone : Int), .int .i64 S.e] 55 := P7.rh
  refine NB.t_r 0 [5, 6, 7, 8, 9, 10, 11, 12, 13, 14] rfl (by kernel_rfl) (by kernel_rfl) (by go_simp) _ (fun w' hw' => NB.run_op_load_agg (off := 0) (m := 4) rfl rfl Try.underlying50 rfl _ _ _ rg7 (by kernel_rfl) (Nat.le_refl _) _ rfl hw') (fun K hK => ?_); go_simp; refine hK _ ?_; clear hK K
  refine NB.t_r 1 [5, 6, 7, 8, 9, 10, 11, 12, 13, 14] rfl (by kernel_rfl) (by kernel_rfl) (by go_simp) _ (fun w' hw' => NB.run_op_load_agg (off := 0) (m := 8) rfl rfl Try.underlying55 rfl _ _ _ rh7 (by kernel_rfl) (Nat.le_refl _) _ rfl hw') (fun K hK => ?_); go_simp; refine hK _ ?_; clear hK K
  refine NB.t_r 2 [3, 4, 5, 6, 7, 8, 9, 10, 11, 12, 13, 14] rfl (by kernel_rfl) (by kernel_rfl) (by go_simp) _ (fun w' hw' => NB.run_op_load_agg (off := 0) (m := 4) rfl rfl Try.underlying59 rfl _ _ _ RA7 (by kernel_rfl) (Nat.le_refl _) _ rfl hw') (fun K hK => ?_); go_simp; refine hK _ ?_; clear hK K
  refine NB.t_e 3 rfl (by kernel_rfl) (by kernel_rfl) (fun K hK => ?_); unfold NB.tmoves; go_simp; refine (HREC.out _ B7).mono ?_; rintro e w8 ⟨aQ, cQ, rfl, hrQ, hb8, _⟩; refine ⟨_, rfl, hb8, hK _ _ ?_⟩; clear hK K
  refine NB.t_r 4 [5, 6, 7, 8, 9, 10, 11, 12, 13, 14] rfl (by kernel_rfl) (by kernel_rfl) (by go_simp) _ (fun w' hw' => NB.run_op_conv_str Try.underlying23 Try.underlying5 Try.underlying9 rfl rfl (Rd.below hrQ hw')) (fun K hK => ?_); go_simp; refine hK _ ?_; clear hK K
  have P8 := P7.below hb8
  refine NB.t_e 5 rfl (by kernel_rfl) (by kernel_rfl) (fun K hK => ?_); unfold NB.tmoves; go_simp; refine (HRA.out _ P8.rd P8.rs).mono ?_; rintro e w9 ⟨v9, s9, rfl, hv9, hs9, hb9, hl9, hls9⟩; refine ⟨_, rfl, hb9, hK _ _ ?_⟩; clear hK K
  have hv := hv9; have hs := hs9
  obtain ⟨e1, g1, e2, g2, rfl, _, _⟩ := hv
  obtain ⟨aM, cM, rfl, _⟩ := hs
  have P9 := P8.below hb9
  have hb79 := bel' hb8 hb9 hb8.size
  have hld : ∀ k, locR (dvV D' e1 g1 e2 g2) k → locR (dvV D a1 c1 a2 c2) k ∨ w7.heap.size ≤ k := fun k hk => (hl9 k hk).imp id (fun h => Nat.le_trans hb8.size h)
  have hls : ∀ k, locS (svV S' aM cM) k → locS (svV S aL cL) k ∨ w7.heap.size ≤ k := fun k hk => (hls9 k hk).imp id (fun h => Nat.le_trans hb8.size h)
  clear hl9 hls9 hb8 hb9 hrQ P8
  refine NB.t_p 6 rfl (by kernel_rfl) (fun K hK => ?_); go_simp; refine hK _ ?_; clear hK K
  refine NB.t_p 7 rfl (by kernel_rfl) (fun K hK => ?_); go_simp; refine hK _ ?_; clear hK K
  refine NB.t_p 8 rfl (by kernel_rfl) (fun K hK => ?_); go_simp; refine hK _ ?_; clear hK K
  refine NB.t_p 9 rfl (by kernel_rfl) (fun K hK => ?_); go_simp; refine hK _ ?_; clear hK K
  refine NB.t_p 10 rfl (by kernel_rfl) (fun K hK => ?_); go_simp; refine hK _ ?_; clear hK K
  refine NB.t_w 11 rfl (by kernel_rfl) (by kernel_rfl) rfl (fun Q' hK => ?_)
  refine NB.wpList_store_agg_any rfl 50 (.tmp 10) (.tmp 142) rfl rfl g 0 #[Value.slice e1 D'.l.length g1, .slice e2 D'.waits.length g2, .int .i64 D'.left, .bool D'.down] rfl rfl 50 #[Value.slice a1 D.l.length c1, .slice a2 D.waits.length c2, .int .i64 D.left, .bool D.down] P9.rg (by kernel_rfl) (Nat.le_refl _) (by intro v hv; simp only [List.mem_cons, List.not_mem_nil, or_false] at hv; rcases hv with rfl | rfl | rfl | rfl <;> rfl) _ rfl ?_
  intro w10 hg10 hc10 hs10
  have K10 := (NB.Kp.refl (fun k => k = g ∨ k = h) w9).grown hg10 (fun k e => .inl (.inl (by cases e; rfl)))
  have rg10 : Rw w10 g (dvL D' e1 g1 e2 g2) 50 := hc10
  have rh10 := P9.rh.keep ((NB.Kp.refl (fun k => k = g) w9).grown hg10 (fun k e => .inl (by cases e; rfl))) (fun e => hgh e.symm)
  refine hK _ _ ?_
  clear hK Q' hg10 hc10 hs10
  refine NB.t_w 12 rfl (by kernel_rfl) (by kernel_rfl) rfl (fun Q' hK => ?_)
  refine NB.wpList_store_agg_any rfl 55 (.tmp 14) (.tmp 143) rfl rfl h 0 #[Value.int .i64 (S'.frm : Int), .int .i64 (S'.n : Int), .int .u64 (S'.epoch : Int), .slice aM S'.l.length cM, .int .i64 (S'.used : Int), .int .i64 (S'.sure : Int), .int .i64 (S'.gone : Int), .int .i64 S'.e] rfl rfl 55 #[Value.int .i64 (S.frm : Int), .int .i64 (S.n : Int), .int .u64 (S.epoch : Int), .slice aL S.l.length cL, .int .i64 (S.used : Int), .int .i64 (S.sure : Int), .int .i64 (S.gone : Int), .int .i64 S.e] rh10 (by kernel_rfl) (Nat.le_refl _) (by intro v hv; simp only [List.mem_cons, List.not_mem_nil, or_false] at hv; rcases hv with rfl | rfl | rfl | rfl | rfl | rfl | rfl | rfl <;> rfl) _ rfl ?_
  intro w11 hg11 hc11 hs11
  have K11 := K10.grown hg11 (fun k e => .inl (.inr (by cases e; rfl)))
  have rg11 := rg10.keep ((NB.Kp.refl (fun k => k = h) w10).grown hg11 (fun k e => .inl (by cases e; rfl))) (fun e => hgh e)
  have rh11 : Rw w11 h (sgL S' aM cM) 55 := hc11
  refine hK _ _ ?_
  have P11 := P7.put hb79 hv9 hs9 hld hls rfl rfl K11 rg11 rh11
  have SS11 := P7.sdh SS7 hb79 K11 hld hls P11 (fun k hk => by subst hk; exact ⟨hjw, hj7⟩)
  clear hK Q' hg11 hc11 hs11 K10 K11 rg10 rh10 rg11 rh11 rg7 rh7 P7 SS7 RA7 P9 hv9 hs9 hld hls hb79 B7
  refine NB.t_p 13 rfl (by kernel_rfl) (fun K hK => ?_); go_simp; refine hK _ ?_; clear hK K
  refine NB.t_p 14 rfl (by kernel_rfl) (fun K hK => ?_); go_simp; refine hK _ ?_; clear hK K
  refine NB.t_end (by kernel_rfl) ?_
  have u0 := (show Rw _ g [Value.slice e1 D'.l.length g1, .slice e2 D'.waits.length g2, .int .i64 D'.left, .bool D'.down] 50 from P11.rg).cell 0 _ rfl
  have u1 := (show Rw _ g [Value.slice e1 D'.l.length g1, .slice e2 D'.waits.length g2, .int .i64 D'.left, .bool D'.down] 50 from P11.rg).cell 1 _ rfl
  have u2 := (show Rw _ g [Value.slice e1 D'.l.length g1, .slice e2 D'.waits.length g2, .int .i64 D'.left, .bool D'.down] 50 from P11.rg).cell 2 _ rfl
  have u3 := (show Rw _ g [Value.slice e1 D'.l.length g1, .slice e2 D'.waits.length g2, .int .i64 D'.left, .bool D'.down] 50 from P11.rg).cell 3 _ rfl
  go_wp2_with (first
    | (go_at_call 33; refine (SS11.ddh.alike P11.rd (by have := HBN.out.wt; omega)).mono ?_; rintro e wU ⟨rfl, hbU⟩; have PU := P11.below hbU; have SU := SS11.below hbU; clear u0 u1 u2 u3; have v0 := (show Rw _ h [Value.int .i64 (S'.frm : Int), .int .i64 (S'.n : Int), .int .u64 (S'.epoch : Int), .slice aM S'.l.length cM, .int .i64 (S'.used : Int), .int .i64 (S'.sure : Int), .int .i64 (S'.gone : Int), .int .i64 S'.e] 55 from PU.rh).cell 0 _ rfl; have v1 := (show Rw _ h [Value.int .i64 (S'.frm : Int), .int .i64 (S'.n : Int), .int .u64 (S'.epoch : Int), .slice aM S'.l.length cM, .int .i64 (S'.used : Int), .int .i64 (S'.sure : Int), .int .i64 (S'.gone : Int), .int .i64 S'.e] 55 from PU.rh).cell 1 _ rfl; have v2 := (show Rw _ h [Value.int .i64 (S'.frm : Int), .int .i64 (S'.n : Int), .int .u64 (S'.epoch : Int), .slice aM S'.l.length cM, .int .i64 (S'.used : Int), .int .i64 (S'.sure : Int), .int .i64 (S'.gone : Int), .int .i64 S'.e] 55 from PU.rh).cell 2 _ rfl; have v3 := (show Rw _ h [Value.int .i64 (S'.frm : Int), .int .i64 (S'.n : Int), .int .u64 (S'.epoch : Int), .slice aM S'.l.length cM, .int .i64 (S'.used : Int), .int .i64 (S'.sure : Int), .int .i64 (S'.gone : Int), .int .i64 S'.e] 55 from PU.rh).cell 3 _ rfl; have v4 := (show Rw _ h [Value.int .i64 (S'.frm : Int), .int .i64 (S'.n : Int), .int .u64 (S'.epoch : Int), .slice aM S'.l.length cM, .int .i64 (S'.used : Int), .int .i64 (S'.sure : Int), .int .i64 (S'.gone : Int), .int .i64 S'.e] 55 from PU.rh).cell 4 _ rfl; have v5 := (show Rw _ h [Value.int .i64 (S'.frm : Int), .int .i64 (S'.n : Int), .int .u64 (S'.epoch : Int), .slice aM S'.l.length cM, .int .i64 (S'.used : Int), .int .i64 (S'.sure : Int), .int .i64 (S'.gone : Int), .int .i64 S'.e] 55 from PU.rh).cell 5 _ rfl; have v6 := (show Rw _ h [Value.int .i64 (S'.frm : Int), .int .i64 (S'.n : Int), .int .u64 (S'.epoch : Int), .slice aM S'.l.length cM, .int .i64 (S'.used : Int), .int .i64 (S'.sure : Int), .int .i64 (S'.gone : Int), .int .i64 S'.e] 55 from PU.rh).cell 6 _ rfl; have v7 := (show Rw _ h [Value.int .i64 (S'.frm : Int), .int .i64 (S'.n : Int), .int .u64 (S'.epoch : Int), .slice aM S'.l.length cM, .int .i64 (S'.used : Int), .int .i64 (S'.sure : Int), .int .i64 (S'.gone : Int), .int .i64 S'.e] 55 from PU.rh).cell 7 _ rfl)
    | (go_at_call 34; refine (has_any _ _ _ q p _ _ _ SU PU.rs (by have := HBN.out.ll; have := HBN.out.us; have := HBN.out.n; omega) (fun b hb => by have := HBN.out.bl b hb; omega) (by have := HBN.out.n; omega) (by have := HBN.out.us; have := HBN.out.n; omega)).mono ?_; rintro e wV ⟨rfl, hbV⟩; have PV := PU.below hbV; have SW := (SU.below hbV).dropX))
  exact HEND.out _ _ _ _ _ _ _ _ _ _ _ _ _ _ _ _ _ _ _ _ _ _ _ _ _ _ _ _ _ _ _ _ _ _ _ _ _ _ _ _ _ _ _ _ _ _ _ _ _ _ _ _ _ _ _ _ _ _ _ _ _ _ _ _ _ _ _ _ _ _ _ _ _ _ _ _ _ _ _ _ _ _ _ _ _ _ _ _ _ _ _ _ _ _ _ _ _ _ _ _ _ _ _ _ _ _ _ _ _ _ _ _ _ _ _ _ _ _ _ _ _ _ _ _ _ _ _ _ _ _ _ _ _ _ _ _ _ _ _ _ _ _ _ _ _ _ _ _ _ _ _ _ _ _ _ _ _ _ _ _ _ _ _ _ _ _ _ _ _ _ _ _ _ _ _ _ _ _ _ _ _ _ _ _ _ _ _ _ _ _ _ _ _ _ _ _ _ q _ _ _ _ _ _ _ _ _ PV SW HBN.out

set_option maxRecDepth 100000 in
set_option maxHeartbeats 32000000 in
theorem spl_A4 (w wr : World) (p g h N0 n c0 b o : Nat) (frm : Int) (hN1 : 1 ≤ N0) (hN24 : N0 ≤ 24) (hf64 : I64 frm) (hbd : n ≤ 9223372036854775807 ∧ c0 ≤ 9223372036854775807) (hnc : n ≤ c0)
    (k q : Nat) (D : Dk) (S : Sg) (a1 : Option Addr) (c1 : Nat) (a2 : Option Addr) (c2 : Nat) (aL : Option Addr) (cL : Nat) (hlt : k < n) (hk30 : k < 30) (P : Ps w wr g h D S a1 c1 a2 c2 aL cL) (SS : SdH (Hb g h (dvV D a1 c1 a2 c2) (svV S aL cL) (fun _ => False)) w wr q p D S) (HB : Bd N0 k D S)
    (K N : Int) (long : Bool) (a' : Option Addr) (c'' : Nat) (bs : List UInt8) (wN : I64 N) (q0 : wr.cell? ⟨b, o + k * 4, none⟩ = some (.int .i64 K)) (q1 : wr.cell? ⟨b, o + k * 4 + 1, none⟩ = some (.int .i64 N)) (q2 : wr.cell? ⟨b, o + k * 4 + 2, none⟩ = some (.slice a' bs.length c'')) (q3 : wr.cell? ⟨b, o + k * 4 + 3, none⟩ = some (.bool long))
    (hbs0 : NB.RdB w a' bs.length c'' bs) (h60 : ¬ 60 < bs.length) (hkv : bits .and .i64 K 15 = 4)
    (y3 y4 y5 y7 y9 y11 y22 y23 y24 y25 y26 y27 y28 y29 y30 y31 y32 y33 y34 y35 y36 y37 y38 y39 y40 y41 y42 y43 y44 y45 y46 y47 y48 y49 y50 y51 y52 y53 y54 y55 y56 y57 y58 y59 y60 y61 y62 y63 y64 y65 y66 : Value) (x6 x13 x15 x17 x18 x19 x20 x21 x67 x68 x69 x70 x71 x72 x73 x74 x75 x76 x77 x78 x79 x80 x81 x82 x83 x84 x85 x86 x87 x88 x89 x90 x91 x92 x93 x94 x95 x96 x97 x98 x99 x100 x101 x102 x103 x104 x105 x106 x107 x108 x109 x110 x111 x112 x113 x114 x115 x116 x117 x118 x119 x120 x121 x122 x123 x124 x125 x126 x127 x128 x129 x130 x131 x132 x133 x134 x135 x136 x137 x138 x139 x140 x141 x142 x143 x144 x145 x146 x147 x148 x149 x150 x151 x152 x153 x154 x155 x156 x157 x158 x159 x160 x161 x162 x163 x164 x165 x166 x167 x168 x169 x170 x171 x172 x173 x174 x175 x176 x177 x178 x179 x180 x181 x182 x183 x184 x185 x186 x187 x188 x189 x190 x191 x192 x193 x194 x195 x196 x197 x198 x199 x200 x201 x202 x203 x204 x205 x206 x207 x208 x209 x210 x211 x212 x213 x214 x215 x216 x217 x218 x219 x220 x221 x222 x223 x224 x225 x226 x227 x228 x229 x230 x231 x232 x233 x234 x235 x236 x237 x238 x239 x240 x241 x242 x243 x244 x245 x246 x247 x248 x249 x250 x251 x252 x253 x254 x255 : Value) (KK : Act → World → Prop) (QQ : Exit → Act → World → Prop)
    (HEND : Hid (∀ (z6 z13 z15 z17 z18 z19 z20 z21 z67 z68 z69 z70 z71 z72 z73 z74 z75 z76 z77 z78 z79 z80 z81 z82 z83 z84 z85 z86 z87 z88 z89 z90 z91 z92 z93 z94 z95 z96 z97 z98 z99 z100 z101 z102 z103 z104 z105 z106 z107 z108 z109 z110 z111 z112 z113 z114 z115 z116 z117 z118 z119 z120 z121 z122 z123 z124 z125 z126 z127 z128 z129 z130 z131 z132 z133 z134 z135 z136 z137 z138 z139 z140 z141 z142 z143 z144 z145 z146 z147 z148 z149 z150 z151 z152 z153 z154 z155 z156 z157 z158 z159 z160 z161 z162 z163 z164 z165 z166 z167 z168 z169 z170 z171 z172 z173 z174 z175 z176 z177 z178 z179 z180 z181 z182 z183 z184 z185 z186 z187 z188 z189 z190 z191 z192 z193 z194 z195 z196 z197 z198 z199 z200 z201 z202 z203 z204 z205 z206 z207 z208 z209 z210 z211 z212 z213 z214 z215 z216 z217 z218 z219 z220 z221 z222 z223 z224 z225 z226 z227 z228 z229 z230 z231 z232 z233 z234 z235 z236 z237 z238 z239 z240 z241 z242 z243 z244 z245 z246 z247 z248 z249 z250 z251 z252 z253 z254 z255 : Value) (q : Nat) (D : Dk) (S : Sg) (a1 : Option Addr) (c1 : Nat) (a2 : Option Addr) (c2 : Nat) (aL : Option Addr) (cL : Nat) (v : World), Ps w v g h D S a1 c1 a2 c2 aL cL → SdH (Hb g h (dvV D a1 c1 a2 c2) (svV S aL cL) (fun _ => False)) w v q p D S → Bd N0 (k + 1) D S → KK ⟨#[.int .i64 (N0 : Int), .int .i64 frm, .slice (some ⟨b, o, none⟩) n c0, y3, y4, y5, z6, y7, .pointer (some ⟨p, 0, none⟩), y9, .pointer (some ⟨g, 0, none⟩), y11, .pointer (some ⟨q, 0, none⟩), z13, .pointer (some ⟨h, 0, none⟩), z15, .int .i64 ((k : Int) + 1), z17, z18, z19, z20, z21, y22, y23, y24, y25, y26, y27, y28, y29, y30, y31, y32, y33, y34, y35, y36, y37, y38, y39, y40, y41, y42, y43, y44, y45, y46, y47, y48, y49, y50, y51, y52, y53, y54, y55, y56, y57, y58, y59, y60, y61, y62, y63, y64, y65, y66, z67, z68, z69, z70, z71, z72, z73, z74, z75, z76, z77, z78, z79, z80, z81, z82, z83, z84, z85, z86, z87, z88, z89, z90, z91, z92, z93, z94, z95, z96, z97, z98, z99, z100, z101, z102, z103, z104, z105, z106, z107, z108, z109, z110, z111, z112, z113, z114, z115, z116, z117, z118, z119, z120, z121, z122, z123, z124, z125, z126, z127, z128, z129, z130, z131, z132, z133, z134, z135, z136, z137, z138, z139, z140, z141, z142, z143, z144, z145, z146, z147, z148, z149, z150, z151, z152, z153, z154, z155, z156, z157, z158, z159, z160, z161, z162, z163, z164, z165, z166, z167, z168, z169, z170, z171, z172, z173, z174, z175, z176, z177, z178, z179, z180, z181, z182, z183, z184, z185, z186, z187, z188, z189, z190, z191, z192, z193, z194, z195, z196, z197, z198, z199, z200, z201, z202, z203, z204, z205, z206, z207, z208, z209, z210, z211, z212, z213, z214, z215, z216, z217, z218, z219, z220, z221, z222, z223, z224, z225, z226, z227, z228, z229, z230, z231, z232, z233, z234, z235, z236, z237, z238, z239, z240, z241, z242, z243, z244, z245, z246, z247, z248, z249, z250, z251, z252, z253, z254, z255], []⟩ v)) :
    Code.wp Try.prog splBody (Exit.then KK QQ) ⟨#[.int .i64 (N0 : Int), .int .i64 frm, .slice (some ⟨b, o, none⟩) n c0, y3, y4, y5, x6, y7, .pointer (some ⟨p, 0, none⟩), y9, .pointer (some ⟨g, 0, none⟩), y11, .pointer (some ⟨q, 0, none⟩), x13, .pointer (some ⟨h, 0, none⟩), x15, .int .i64 ((k : Int)), x17, x18, x19, x20, x21, y22, y23, y24, y25, y26, y27, y28, y29, y30, y31, y32, y33, y34, y35, y36, y37, y38, y39, y40, y41, y42, y43, y44, y45, y46, y47, y48, y49, y50, y51, y52, y53, y54, y55, y56, y57, y58, y59, y60, y61, y62, y63, y64, y65, y66, x67, x68, x69, x70, x71, x72, x73, x74, x75, x76, x77, x78, x79, x80, x81, x82, x83, x84, x85, x86, x87, x88, x89, x90, x91, x92, x93, x94, x95, x96, x97, x98, x99, x100, x101, x102, x103, x104, x105, x106, x107, x108, x109, x110, x111, x112, x113, x114, x115, x116, x117, x118, x119, x120, x121, x122, x123, x124, x125, x126, x127, x128, x129, x130, x131, x132, x133, x134, x135, x136, x137, x138, x139, x140, x141, x142, x143, x144, x145, x146, x147, x148, x149, x150, x151, x152, x153, x154, x155, x156, x157, x158, x159, x160, x161, x162, x163, x164, x165, x166, x167, x168, x169, x170, x171, x172, x173, x174, x175, x176, x177, x178, x179, x180, x181, x182, x183, x184, x185, x186, x187, x188, x189, x190, x191, x192, x193, x194, x195, x196, x197, x198, x199, x200, x201, x202, x203, x204, x205, x206, x207, x208, x209, x210, x211, x212, x213, x214, x215, x216, x217, x218, x219, x220, x221, x222, x223, x224, x225, x226, x227, x228, x229, x230, x231, x232, x233, x234, x235, x236, x237, x238, x239, x240, x241, x242, x243, x244, x245, x246, x247, x248, x249, x250, x251, x252, x253, x254, x255], []⟩ wr := by
  conv => arg 2; whnf
  have hki : (k : Int) < (n : Int) := by omega
  have hk30i : (k : Int) < 30 := by omega
  have hbb := Rd.bound hbs0
  have h60i : ¬ (60 : Int) < (bs.length : Int) := by omega
  obtain ⟨hlf, hln, hl64, hw64⟩ := SS.dfacts
  have hB := SS.low
  have RAe : Rw (wr.alloc (.cells #[Value.int .i64 K, .int .i64 N, .slice a' bs.length c'', .bool long] 59)) wr.heap.size [Value.int .i64 K, .int .i64 N, .slice a' bs.length c'', .bool long] 59 := rw_new wr [Value.int .i64 K, .int .i64 N, .slice a' bs.length c'', .bool long] _ rfl
  have hob := oneB' wr (.cells #[Value.int .i64 K, .int .i64 N, .slice a' bs.length c'', .bool long] 59)
  have Pe := P.below hob
  have SSe := SS.addX hob wr.heap.size (Nat.le_refl _) RAe.lt
  have Be := bel' hB hob hB.size
  have hjw : w.heap.size ≤ wr.heap.size := hB.size
  obtain ⟨we, hwe⟩ : ∃ we, wr.alloc (.cells #[Value.int .i64 K, .int .i64 N, .slice a' bs.length c'', .bool long] 59) = we := ⟨_, rfl⟩
  rw [hwe] at RAe Pe SSe Be
  have m0 := RAe.cell 0 _ rfl
  have m1 := RAe.cell 1 _ rfl
  have m2 := RAe.cell 2 _ rfl
  have m3 := RAe.cell 3 _ rfl
  have HL64 := Go.Lib.hid hl64; have HW64 := Go.Lib.hid hw64
  have hgh := P.gh
  have hwt := HB.wt
  clear hl64 hw64 hob P SS hB
  obtain ⟨R, hR⟩ : ∃ R, recM long bs = R := ⟨_, rfl⟩
  have hRl : R.length ≤ 420 := by rw [← hR]; exact recM_len long bs (by omega)
  have hRn : R ≠ [] → bs ≠ [] := by rintro h1 rfl; exact h1 (by rw [← hR]; cases long <;> rfl)
  have hrec := fun w1 (hb : Below w.heap.size w w1) => rec_any w1 K N a' c'' bs long (Rd.below hbs0 hb) (by omega)
  unfold RecR at hrec
  simp only [hR] at hrec
  have HREC := Go.Lib.hid hrec; have HRN := Go.Lib.hid hRn
  clear hrec hR hRn
  obtain ⟨D', S', xr, er, hM⟩ : ∃ D' S' xr er, appM D S R = (D', S', xr, er) := ⟨_, _, _, _, rfl⟩
  have hbn := HB.app R
  rw [hM] at hbn
  have HBN : Hid (Bd N0 (k + 1) D' S') := Go.Lib.hid hbn
  have hep := HB.ep; have hus := HB.us; have hll := HB.ll; have hsn := HB.n; have hsf := HB.frm
  have hra := fun v hd hs => rapp_any v (dvV D a1 c1 a2 c2) (svV S aL cL) D S R hd hs hlf.1 hlf.2 (by omega) (by omega) (by omega) (by omega) hep (by omega) (by omega)
  rw [hM] at hra
  unfold AppR dvV rdV svV sgL at hra
  simp only at hra
  have HRA := Go.Lib.hid hra
  have HM := Go.Lib.hid hM
  clear hbn hM hra
  go_wp2_with fail
  go_at_call 24
  refine (HREC.out _ Be).mono ?_
  rintro e w5 ⟨aR, cR, rfl, hrR, hb5, hlR⟩
  go_wp2_with fail
  have hqa := qh_app _ w we w5 q p D S aR R.length cR R SSe hb5 ⟨hrR, fun k o e hn => (hlR k o e).elim (fun h => .inl (hbs0.lt k o (h ▸ e) (by simpa using HRN.out hn))) .inr⟩ (by omega) (by omega)
  rw [HM.out] at hqa
  go_at_call 12
  refine hqa.mono ?_
  rintro e w6 ⟨rfl, SS6, K6⟩
  replace SS6 : SdH (Hb g h (dvV D a1 c1 a2 c2) (svV S aL cL) (fun k => k = wr.heap.size)) w w6 q p D' S' := SS6
  have P6 := (Pe.below hb5).keep K6 (fun k hk hn => hn hk)
  have RA6 := (RAe.below hb5).keep K6 (fun hn => hn (.inr (.inr (.inl rfl))))
  clear Pe SSe RAe Be m0 m1 m2 m3 K6 hb5 hrR hlR hqa
  go_wp2_with fail
  refine NB.wp_region_t [11, 12] (by kernel_rfl) ?_
  have P7 := P6.below (dB' _)
  have SS7 := SS6.below (dB' _)
  have RA7 := RA6.below (dB' _)
  clear P6 SS6 RA6
  generalize World.drew _ = w7 at *
  have B7 := SS7.low
  have hj7 := RA7.lt
  have rg7 : Rw w7 g [Value.slice a1 D.l.length c1, .slice a2 D.waits.length c2, .int .i64 D.left, .bool D.down] 50 := P7.rg
  have rh7 : Rw w7 h [Value.int .i64 (S.frm : Int), .int .i64 (S.n : Int), .int .u64 (S.epoch : Int), .slice aL S.l.length cL, .int .i64 (S.used : Int), .int .i64 (S.sure : Int), .int .i64 (S.gone : Int), .int .i64 S.e] 55 := P7.rh
  refine NB.t_r 0 [5, 6, 7, 8, 9, 10, 11, 12, 13, 14] rfl (by kernel_rfl) (by kernel_rfl) (by go_simp) _ (fun w' hw' => NB.run_op_load_agg (off := 0) (m := 4) rfl rfl Try.underlying50 rfl _ _ _ rg7 (by kernel_rfl) (Nat.le_refl _) _ rfl hw') (fun K hK => ?_); go_simp; refine hK _ ?_; clear hK K
  refine NB.t_r 1 [5, 6, 7, 8, 9, 10, 11, 12, 13, 14] rfl (by kernel_rfl) (by kernel_rfl) (by go_simp) _ (fun w' hw' => NB.run_op_load_agg (off := 0) (m := 8) rfl rfl Try.underlying55 rfl _ _ _ rh7 (by kernel_rfl) (Nat.le_refl _) _ rfl hw') (fun K hK => ?_); go_simp; refine hK _ ?_; clear hK K
  refine NB.t_r 2 [3, 4, 5, 6, 7, 8, 9, 10, 11, 12, 13, 14] rfl (by kernel_rfl) (by kernel_rfl) (by go_simp) _ (fun w' hw' => NB.run_op_load_agg (off := 0) (m := 4) rfl rfl Try.underlying59 rfl _ _ _ RA7 (by kernel_rfl) (Nat.le_refl _) _ rfl hw') (fun K hK => ?_); go_simp; refine hK _ ?_; clear hK K
  refine NB.t_e 3 rfl (by kernel_rfl) (by kernel_rfl) (fun K hK => ?_); unfold NB.tmoves; go_simp; refine (HREC.out _ B7).mono ?_; rintro e w8 ⟨aQ, cQ, rfl, hrQ, hb8, _⟩; refine ⟨_, rfl, hb8, hK _ _ ?_⟩; clear hK K
  refine NB.t_r 4 [5, 6, 7, 8, 9, 10, 11, 12, 13, 14] rfl (by kernel_rfl) (by kernel_rfl) (by go_simp) _ (fun w' hw' => NB.run_op_conv_str Try.underlying23 Try.underlying5 Try.underlying9 rfl rfl (Rd.below hrQ hw')) (fun K hK => ?_); go_simp; refine hK _ ?_; clear hK K
  have P8 := P7.below hb8
  refine NB.t_e 5 rfl (by kernel_rfl) (by kernel_rfl) (fun K hK => ?_); unfold NB.tmoves; go_simp; refine (HRA.out _ P8.rd P8.rs).mono ?_; rintro e w9 ⟨v9, s9, rfl, hv9, hs9, hb9, hl9, hls9⟩; refine ⟨_, rfl, hb9, hK _ _ ?_⟩; clear hK K
  have hv := hv9; have hs := hs9
  obtain ⟨e1, g1, e2, g2, rfl, _, _⟩ := hv
  obtain ⟨aM, cM, rfl, _⟩ := hs
  have P9 := P8.below hb9
  have hb79 := bel' hb8 hb9 hb8.size
  have hld : ∀ k, locR (dvV D' e1 g1 e2 g2) k → locR (dvV D a1 c1 a2 c2) k ∨ w7.heap.size ≤ k := fun k hk => (hl9 k hk).imp id (fun h => Nat.le_trans hb8.size h)
  have hls : ∀ k, locS (svV S' aM cM) k → locS (svV S aL cL) k ∨ w7.heap.size ≤ k := fun k hk => (hls9 k hk).imp id (fun h => Nat.le_trans hb8.size h)
  clear hl9 hls9 hb8 hb9 hrQ P8
  refine NB.t_p 6 rfl (by kernel_rfl) (fun K hK => ?_); go_simp; refine hK _ ?_; clear hK K
  refine NB.t_p 7 rfl (by kernel_rfl) (fun K hK => ?_); go_simp; refine hK _ ?_; clear hK K
  refine NB.t_p 8 rfl (by kernel_rfl) (fun K hK => ?_); go_simp; refine hK _ ?_; clear hK K
  refine NB.t_p 9 rfl (by kernel_rfl) (fun K hK => ?_); go_simp; refine hK _ ?_; clear hK K
  refine NB.t_p 10 rfl (by kernel_rfl) (fun K hK => ?_); go_simp; refine hK _ ?_; clear hK K
  refine NB.t_w 11 rfl (by kernel_rfl) (by kernel_rfl) rfl (fun Q' hK => ?_)
  refine NB.wpList_store_agg_any rfl 50 (.tmp 10) (.tmp 142) rfl rfl g 0 #[Value.slice e1 D'.l.length g1, .slice e2 D'.waits.length g2, .int .i64 D'.left, .bool D'.down] rfl rfl 50 #[Value.slice a1 D.l.length c1, .slice a2 D.waits.length c2, .int .i64 D.left, .bool D.down] P9.rg (by kernel_rfl) (Nat.le_refl _) (by intro v hv; simp only [List.mem_cons, List.not_mem_nil, or_false] at hv; rcases hv with rfl | rfl | rfl | rfl <;> rfl) _ rfl ?_
  intro w10 hg10 hc10 hs10
  have K10 := (NB.Kp.refl (fun k => k = g ∨ k = h) w9).grown hg10 (fun k e => .inl (.inl (by cases e; rfl)))
  have rg10 : Rw w10 g (dvL D' e1 g1 e2 g2) 50 := hc10
  have rh10 := P9.rh.keep ((NB.Kp.refl (fun k => k = g) w9).grown hg10 (fun k e => .inl (by cases e; rfl))) (fun e => hgh e.symm)
  refine hK _ _ ?_
  clear hK Q' hg10 hc10 hs10
  refine NB.t_w 12 rfl (by kernel_rfl) (by kernel_rfl) rfl (fun Q' hK => ?_)
  refine NB.wpList_store_agg_any rfl 55 (.tmp 14) (.tmp 143) rfl rfl h 0 #[Value.int .i64 (S'.frm : Int), .int .i64 (S'.n : Int), .int .u64 (S'.epoch : Int), .slice aM S'.l.length cM, .int .i64 (S'.used : Int), .int .i64 (S'.sure : Int), .int .i64 (S'.gone : Int), .int .i64 S'.e] rfl rfl 55 #[Value.int .i64 (S.frm : Int), .int .i64 (S.n : Int), .int .u64 (S.epoch : Int), .slice aL S.l.length cL, .int .i64 (S.used : Int), .int .i64 (S.sure : Int), .int .i64 (S.gone : Int), .int .i64 S.e] rh10 (by kernel_rfl) (Nat.le_refl _) (by intro v hv; simp only [List.mem_cons, List.not_mem_nil, or_false] at hv; rcases hv with rfl | rfl | rfl | rfl | rfl | rfl | rfl | rfl <;> rfl) _ rfl ?_
  intro w11 hg11 hc11 hs11
  have K11 := K10.grown hg11 (fun k e => .inl (.inr (by cases e; rfl)))
  have rg11 := rg10.keep ((NB.Kp.refl (fun k => k = h) w10).grown hg11 (fun k e => .inl (by cases e; rfl))) (fun e => hgh e)
  have rh11 : Rw w11 h (sgL S' aM cM) 55 := hc11
  refine hK _ _ ?_
  have P11 := P7.put hb79 hv9 hs9 hld hls rfl rfl K11 rg11 rh11
  have SS11 := P7.sdh SS7 hb79 K11 hld hls P11 (fun k hk => by subst hk; exact ⟨hjw, hj7⟩)
  clear hK Q' hg11 hc11 hs11 K10 K11 rg10 rh10 rg11 rh11 rg7 rh7 P7 SS7 RA7 P9 hv9 hs9 hld hls hb79 B7
  refine NB.t_p 13 rfl (by kernel_rfl) (fun K hK => ?_); go_simp; refine hK _ ?_; clear hK K
  refine NB.t_p 14 rfl (by kernel_rfl) (fun K hK => ?_); go_simp; refine hK _ ?_; clear hK K
  refine NB.t_end (by kernel_rfl) ?_
  have u0 := (show Rw _ g [Value.slice e1 D'.l.length g1, .slice e2 D'.waits.length g2, .int .i64 D'.left, .bool D'.down] 50 from P11.rg).cell 0 _ rfl
  have u1 := (show Rw _ g [Value.slice e1 D'.l.length g1, .slice e2 D'.waits.length g2, .int .i64 D'.left, .bool D'.down] 50 from P11.rg).cell 1 _ rfl
  have u2 := (show Rw _ g [Value.slice e1 D'.l.length g1, .slice e2 D'.waits.length g2, .int .i64 D'.left, .bool D'.down] 50 from P11.rg).cell 2 _ rfl
  have u3 := (show Rw _ g [Value.slice e1 D'.l.length g1, .slice e2 D'.waits.length g2, .int .i64 D'.left, .bool D'.down] 50 from P11.rg).cell 3 _ rfl
  go_wp2_with (first
    | (go_at_call 33; refine (SS11.ddh.alike P11.rd (by have := HBN.out.wt; omega)).mono ?_; rintro e wU ⟨rfl, hbU⟩; have PU := P11.below hbU; have SU := SS11.below hbU; clear u0 u1 u2 u3; have v0 := (show Rw _ h [Value.int .i64 (S'.frm : Int), .int .i64 (S'.n : Int), .int .u64 (S'.epoch : Int), .slice aM S'.l.length cM, .int .i64 (S'.used : Int), .int .i64 (S'.sure : Int), .int .i64 (S'.gone : Int), .int .i64 S'.e] 55 from PU.rh).cell 0 _ rfl; have v1 := (show Rw _ h [Value.int .i64 (S'.frm : Int), .int .i64 (S'.n : Int), .int .u64 (S'.epoch : Int), .slice aM S'.l.length cM, .int .i64 (S'.used : Int), .int .i64 (S'.sure : Int), .int .i64 (S'.gone : Int), .int .i64 S'.e] 55 from PU.rh).cell 1 _ rfl; have v2 := (show Rw _ h [Value.int .i64 (S'.frm : Int), .int .i64 (S'.n : Int), .int .u64 (S'.epoch : Int), .slice aM S'.l.length cM, .int .i64 (S'.used : Int), .int .i64 (S'.sure : Int), .int .i64 (S'.gone : Int), .int .i64 S'.e] 55 from PU.rh).cell 2 _ rfl; have v3 := (show Rw _ h [Value.int .i64 (S'.frm : Int), .int .i64 (S'.n : Int), .int .u64 (S'.epoch : Int), .slice aM S'.l.length cM, .int .i64 (S'.used : Int), .int .i64 (S'.sure : Int), .int .i64 (S'.gone : Int), .int .i64 S'.e] 55 from PU.rh).cell 3 _ rfl; have v4 := (show Rw _ h [Value.int .i64 (S'.frm : Int), .int .i64 (S'.n : Int), .int .u64 (S'.epoch : Int), .slice aM S'.l.length cM, .int .i64 (S'.used : Int), .int .i64 (S'.sure : Int), .int .i64 (S'.gone : Int), .int .i64 S'.e] 55 from PU.rh).cell 4 _ rfl; have v5 := (show Rw _ h [Value.int .i64 (S'.frm : Int), .int .i64 (S'.n : Int), .int .u64 (S'.epoch : Int), .slice aM S'.l.length cM, .int .i64 (S'.used : Int), .int .i64 (S'.sure : Int), .int .i64 (S'.gone : Int), .int .i64 S'.e] 55 from PU.rh).cell 5 _ rfl; have v6 := (show Rw _ h [Value.int .i64 (S'.frm : Int), .int .i64 (S'.n : Int), .int .u64 (S'.epoch : Int), .slice aM S'.l.length cM, .int .i64 (S'.used : Int), .int .i64 (S'.sure : Int), .int .i64 (S'.gone : Int), .int .i64 S'.e] 55 from PU.rh).cell 6 _ rfl; have v7 := (show Rw _ h [Value.int .i64 (S'.frm : Int), .int .i64 (S'.n : Int), .int .u64 (S'.epoch : Int), .slice aM S'.l.length cM, .int .i64 (S'.used : Int), .int .i64 (S'.sure : Int), .int .i64 (S'.gone : Int), .int .i64 S'.e] 55 from PU.rh).cell 7 _ rfl)
    | (go_at_call 34; refine (has_any _ _ _ q p _ _ _ SU PU.rs (by have := HBN.out.ll; have := HBN.out.us; have := HBN.out.n; omega) (fun b hb => by have := HBN.out.bl b hb; omega) (by have := HBN.out.n; omega) (by have := HBN.out.us; have := HBN.out.n; omega)).mono ?_; rintro e wV ⟨rfl, hbV⟩; have PV := PU.below hbV; have SW := (SU.below hbV).dropX))
  exact HEND.out _ _ _ _ _ _ _ _ _ _ _ _ _ _ _ _ _ _ _ _ _ _ _ _ _ _ _ _ _ _ _ _ _ _ _ _ _ _ _ _ _ _ _ _ _ _ _ _ _ _ _ _ _ _ _ _ _ _ _ _ _ _ _ _ _ _ _ _ _ _ _ _ _ _ _ _ _ _ _ _ _ _ _ _ _ _ _ _ _ _ _ _ _ _ _ _ _ _ _ _ _ _ _ _ _ _ _ _ _ _ _ _ _ _ _ _ _ _ _ _ _ _ _ _ _ _ _ _ _ _ _ _ _ _ _ _ _ _ _ _ _ _ _ _ _ _ _ _ _ _ _ _ _ _ _ _ _ _ _ _ _ _ _ _ _ _ _ _ _ _ _ _ _ _ _ _ _ _ _ _ _ _ _ _ _ _ _ _ _ _ _ _ _ _ _ _ _ q _ _ _ _ _ _ _ _ _ PV SW HBN.out
end Go.Proofs.Ytmgkaoenjnnlmaa
namespace Go.Proofs.Ytmgkaoenjnnlmaa
open Go.RowKit
open Go.NB.Crc
open Go.NB (Rd Dk Kp Stp Off Dis val I64)

set_option maxRecDepth 100000 in
set_option maxHeartbeats 32000000 in
theorem spl_B5 (w wr : World) (p g h N0 n c0 b o : Nat) (frm : Int) (hN1 : 1 ≤ N0) (hN24 : N0 ≤ 24) (hf64 : I64 frm) (hbd : n ≤ 9223372036854775807 ∧ c0 ≤ 9223372036854775807) (hnc : n ≤ c0)
    (k q : Nat) (D : Dk) (S : Sg) (a1 : Option Addr) (c1 : Nat) (a2 : Option Addr) (c2 : Nat) (aL : Option Addr) (cL : Nat) (hlt : k < n) (hk30 : k < 30) (P : Ps w wr g h D S a1 c1 a2 c2 aL cL) (SS : SdH (Hb g h (dvV D a1 c1 a2 c2) (svV S aL cL) (fun _ => False)) w wr q p D S) (HB : Bd N0 k D S)
    (K N : Int) (long : Bool) (a' : Option Addr) (c'' : Nat) (bs : List UInt8) (wN : I64 N) (q0 : wr.cell? ⟨b, o + k * 4, none⟩ = some (.int .i64 K)) (q1 : wr.cell? ⟨b, o + k * 4 + 1, none⟩ = some (.int .i64 N)) (q2 : wr.cell? ⟨b, o + k * 4 + 2, none⟩ = some (.slice a' bs.length c'')) (q3 : wr.cell? ⟨b, o + k * 4 + 3, none⟩ = some (.bool long))
    (hbs0 : NB.RdB w a' bs.length c'' bs) (h60 : ¬ 60 < bs.length) (hkv : bits .and .i64 K 15 = 5)
    (y3 y4 y5 y7 y9 y11 y22 y23 y24 y25 y26 y27 y28 y29 y30 y31 y32 y33 y34 y35 y36 y37 y38 y39 y40 y41 y42 y43 y44 y45 y46 y47 y48 y49 y50 y51 y52 y53 y54 y55 y56 y57 y58 y59 y60 y61 y62 y63 y64 y65 y66 : Value) (x6 x13 x15 x17 x18 x19 x20 x21 x67 x68 x69 x70 x71 x72 x73 x74 x75 x76 x77 x78 x79 x80 x81 x82 x83 x84 x85 x86 x87 x88 x89 x90 x91 x92 x93 x94 x95 x96 x97 x98 x99 x100 x101 x102 x103 x104 x105 x106 x107 x108 x109 x110 x111 x112 x113 x114 x115 x116 x117 x118 x119 x120 x121 x122 x123 x124 x125 x126 x127 x128 x129 x130 x131 x132 x133 x134 x135 x136 x137 x138 x139 x140 x141 x142 x143 x144 x145 x146 x147 x148 x149 x150 x151 x152 x153 x154 x155 x156 x157 x158 x159 x160 x161 x162 x163 x164 x165 x166 x167 x168 x169 x170 x171 x172 x173 x174 x175 x176 x177 x178 x179 x180 x181 x182 x183 x184 x185 x186 x187 x188 x189 x190 x191 x192 x193 x194 x195 x196 x197 x198 x199 x200 x201 x202 x203 x204 x205 x206 x207 x208 x209 x210 x211 x212 x213 x214 x215 x216 x217 x218 x219 x220 x221 x222 x223 x224 x225 x226 x227 x228 x229 x230 x231 x232 x233 x234 x235 x236 x237 x238 x239 x240 x241 x242 x243 x244 x245 x246 x247 x248 x249 x250 x251 x252 x253 x254 x255 : Value) (KK : Act → World → Prop) (QQ : Exit → Act → World → Prop)
    (HEND : Hid (∀ (z6 z13 z15 z17 z18 z19 z20 z21 z67 z68 z69 z70 z71 z72 z73 z74 z75 z76 z77 z78 z79 z80 z81 z82 z83 z84 z85 z86 z87 z88 z89 z90 z91 z92 z93 z94 z95 z96 z97 z98 z99 z100 z101 z102 z103 z104 z105 z106 z107 z108 z109 z110 z111 z112 z113 z114 z115 z116 z117 z118 z119 z120 z121 z122 z123 z124 z125 z126 z127 z128 z129 z130 z131 z132 z133 z134 z135 z136 z137 z138 z139 z140 z141 z142 z143 z144 z145 z146 z147 z148 z149 z150 z151 z152 z153 z154 z155 z156 z157 z158 z159 z160 z161 z162 z163 z164 z165 z166 z167 z168 z169 z170 z171 z172 z173 z174 z175 z176 z177 z178 z179 z180 z181 z182 z183 z184 z185 z186 z187 z188 z189 z190 z191 z192 z193 z194 z195 z196 z197 z198 z199 z200 z201 z202 z203 z204 z205 z206 z207 z208 z209 z210 z211 z212 z213 z214 z215 z216 z217 z218 z219 z220 z221 z222 z223 z224 z225 z226 z227 z228 z229 z230 z231 z232 z233 z234 z235 z236 z237 z238 z239 z240 z241 z242 z243 z244 z245 z246 z247 z248 z249 z250 z251 z252 z253 z254 z255 : Value) (q : Nat) (D : Dk) (S : Sg) (a1 : Option Addr) (c1 : Nat) (a2 : Option Addr) (c2 : Nat) (aL : Option Addr) (cL : Nat) (v : World), Ps w v g h D S a1 c1 a2 c2 aL cL → SdH (Hb g h (dvV D a1 c1 a2 c2) (svV S aL cL) (fun _ => False)) w v q p D S → Bd N0 (k + 1) D S → KK ⟨#[.int .i64 (N0 : Int), .int .i64 frm, .slice (some ⟨b, o, none⟩) n c0, y3, y4, y5, z6, y7, .pointer (some ⟨p, 0, none⟩), y9, .pointer (some ⟨g, 0, none⟩), y11, .pointer (some ⟨q, 0, none⟩), z13, .pointer (some ⟨h, 0, none⟩), z15, .int .i64 ((k : Int) + 1), z17, z18, z19, z20, z21, y22, y23, y24, y25, y26, y27, y28, y29, y30, y31, y32, y33, y34, y35, y36, y37, y38, y39, y40, y41, y42, y43, y44, y45, y46, y47, y48, y49, y50, y51, y52, y53, y54, y55, y56, y57, y58, y59, y60, y61, y62, y63, y64, y65, y66, z67, z68, z69, z70, z71, z72, z73, z74, z75, z76, z77, z78, z79, z80, z81, z82, z83, z84, z85, z86, z87, z88, z89, z90, z91, z92, z93, z94, z95, z96, z97, z98, z99, z100, z101, z102, z103, z104, z105, z106, z107, z108, z109, z110, z111, z112, z113, z114, z115, z116, z117, z118, z119, z120, z121, z122, z123, z124, z125, z126, z127, z128, z129, z130, z131, z132, z133, z134, z135, z136, z137, z138, z139, z140, z141, z142, z143, z144, z145, z146, z147, z148, z149, z150, z151, z152, z153, z154, z155, z156, z157, z158, z159, z160, z161, z162, z163, z164, z165, z166, z167, z168, z169, z170, z171, z172, z173, z174, z175, z176, z177, z178, z179, z180, z181, z182, z183, z184, z185, z186, z187, z188, z189, z190, z191, z192, z193, z194, z195, z196, z197, z198, z199, z200, z201, z202, z203, z204, z205, z206, z207, z208, z209, z210, z211, z212, z213, z214, z215, z216, z217, z218, z219, z220, z221, z222, z223, z224, z225, z226, z227, z228, z229, z230, z231, z232, z233, z234, z235, z236, z237, z238, z239, z240, z241, z242, z243, z244, z245, z246, z247, z248, z249, z250, z251, z252, z253, z254, z255], []⟩ v)) :
    Code.wp Try.prog splBody (Exit.then KK QQ) ⟨#[.int .i64 (N0 : Int), .int .i64 frm, .slice (some ⟨b, o, none⟩) n c0, y3, y4, y5, x6, y7, .pointer (some ⟨p, 0, none⟩), y9, .pointer (some ⟨g, 0, none⟩), y11, .pointer (some ⟨q, 0, none⟩), x13, .pointer (some ⟨h, 0, none⟩), x15, .int .i64 ((k : Int)), x17, x18, x19, x20, x21, y22, y23, y24, y25, y26, y27, y28, y29, y30, y31, y32, y33, y34, y35, y36, y37, y38, y39, y40, y41, y42, y43, y44, y45, y46, y47, y48, y49, y50, y51, y52, y53, y54, y55, y56, y57, y58, y59, y60, y61, y62, y63, y64, y65, y66, x67, x68, x69, x70, x71, x72, x73, x74, x75, x76, x77, x78, x79, x80, x81, x82, x83, x84, x85, x86, x87, x88, x89, x90, x91, x92, x93, x94, x95, x96, x97, x98, x99, x100, x101, x102, x103, x104, x105, x106, x107, x108, x109, x110, x111, x112, x113, x114, x115, x116, x117, x118, x119, x120, x121, x122, x123, x124, x125, x126, x127, x128, x129, x130, x131, x132, x133, x134, x135, x136, x137, x138, x139, x140, x141, x142, x143, x144, x145, x146, x147, x148, x149, x150, x151, x152, x153, x154, x155, x156, x157, x158, x159, x160, x161, x162, x163, x164, x165, x166, x167, x168, x169, x170, x171, x172, x173, x174, x175, x176, x177, x178, x179, x180, x181, x182, x183, x184, x185, x186, x187, x188, x189, x190, x191, x192, x193, x194, x195, x196, x197, x198, x199, x200, x201, x202, x203, x204, x205, x206, x207, x208, x209, x210, x211, x212, x213, x214, x215, x216, x217, x218, x219, x220, x221, x222, x223, x224, x225, x226, x227, x228, x229, x230, x231, x232, x233, x234, x235, x236, x237, x238, x239, x240, x241, x242, x243, x244, x245, x246, x247, x248, x249, x250, x251, x252, x253, x254, x255], []⟩ wr := by
  conv => arg 2; whnf
  have hki : (k : Int) < (n : Int) := by omega
  have hk30i : (k : Int) < 30 := by omega
  have hbb := Rd.bound hbs0
  have h60i : ¬ (60 : Int) < (bs.length : Int) := by omega
  obtain ⟨hlf, hln, hl64, hw64⟩ := SS.dfacts
  have hB := SS.low
  have RAe : Rw (wr.alloc (.cells #[Value.int .i64 K, .int .i64 N, .slice a' bs.length c'', .bool long] 59)) wr.heap.size [Value.int .i64 K, .int .i64 N, .slice a' bs.length c'', .bool long] 59 := rw_new wr [Value.int .i64 K, .int .i64 N, .slice a' bs.length c'', .bool long] _ rfl
  have hob := oneB' wr (.cells #[Value.int .i64 K, .int .i64 N, .slice a' bs.length c'', .bool long] 59)
  have Pe := P.below hob
  have SSe := SS.addX hob wr.heap.size (Nat.le_refl _) RAe.lt
  have Be := bel' hB hob hB.size
  have hjw : w.heap.size ≤ wr.heap.size := hB.size
  obtain ⟨we, hwe⟩ : ∃ we, wr.alloc (.cells #[Value.int .i64 K, .int .i64 N, .slice a' bs.length c'', .bool long] 59) = we := ⟨_, rfl⟩
  rw [hwe] at RAe Pe SSe Be
  have m0 := RAe.cell 0 _ rfl
  have m1 := RAe.cell 1 _ rfl
  have m2 := RAe.cell 2 _ rfl
  have m3 := RAe.cell 3 _ rfl
  have HL64 := Go.Lib.hid hl64; have HW64 := Go.Lib.hid hw64
  have hgh := P.gh
  have hwt := HB.wt
  clear hl64 hw64 hob P SS hB
  obtain ⟨D', S', er, hM⟩ : ∃ D' S' er, synM D S = (D', S', er) := ⟨_, _, _, rfl⟩
  have hbn := HB.syn
  rw [hM] at hbn
  have HBN : Hid (Bd N0 (k + 1) D' S') := Go.Lib.hid hbn
  have hll := HB.ll; have hus := HB.us; have hsn := HB.n
  have hra := fun v hd hs => rsyn_any v (dvV D a1 c1 a2 c2) (svV S aL cL) D S hd hs hlf.1 hlf.2 hln (by omega) (fun x hx => (HW64.out x hx).2) (by omega)
  rw [hM] at hra
  unfold SynR dvV rdV svV sgL at hra
  simp only at hra
  have HRA := Go.Lib.hid hra
  have hqa := qh_sync _ w we q p D S SSe (by omega)
  rw [hM] at hqa
  have HQA := Go.Lib.hid hqa
  clear hbn hM hra hqa
  go_wp2_with fail
  go_at_call 13
  refine HQA.out.mono ?_
  rintro e w6 ⟨rfl, SS6, K6⟩
  replace SS6 : SdH (Hb g h (dvV D a1 c1 a2 c2) (svV S aL cL) (fun k => k = wr.heap.size)) w w6 q p D' S' := SS6
  have P6 := Pe.keep K6 (fun k hk hn => hn hk)
  have RA6 := RAe.keep K6 (fun hn => hn (.inr (.inr (.inl rfl))))
  have hj6 := RA6.lt
  clear Pe SSe RAe Be m0 m1 m2 m3 K6
  have u0 := (show Rw _ g [Value.slice a1 D.l.length c1, .slice a2 D.waits.length c2, .int .i64 D.left, .bool D.down] 50 from P6.rg).cell 0 _ rfl
  have u1 := (show Rw _ g [Value.slice a1 D.l.length c1, .slice a2 D.waits.length c2, .int .i64 D.left, .bool D.down] 50 from P6.rg).cell 1 _ rfl
  have u2 := (show Rw _ g [Value.slice a1 D.l.length c1, .slice a2 D.waits.length c2, .int .i64 D.left, .bool D.down] 50 from P6.rg).cell 2 _ rfl
  have u3 := (show Rw _ g [Value.slice a1 D.l.length c1, .slice a2 D.waits.length c2, .int .i64 D.left, .bool D.down] 50 from P6.rg).cell 3 _ rfl
  have v0 := (show Rw _ h [Value.int .i64 (S.frm : Int), .int .i64 (S.n : Int), .int .u64 (S.epoch : Int), .slice aL S.l.length cL, .int .i64 (S.used : Int), .int .i64 (S.sure : Int), .int .i64 (S.gone : Int), .int .i64 S.e] 55 from P6.rh).cell 0 _ rfl
  have v1 := (show Rw _ h [Value.int .i64 (S.frm : Int), .int .i64 (S.n : Int), .int .u64 (S.epoch : Int), .slice aL S.l.length cL, .int .i64 (S.used : Int), .int .i64 (S.sure : Int), .int .i64 (S.gone : Int), .int .i64 S.e] 55 from P6.rh).cell 1 _ rfl
  have v2 := (show Rw _ h [Value.int .i64 (S.frm : Int), .int .i64 (S.n : Int), .int .u64 (S.epoch : Int), .slice aL S.l.length cL, .int .i64 (S.used : Int), .int .i64 (S.sure : Int), .int .i64 (S.gone : Int), .int .i64 S.e] 55 from P6.rh).cell 2 _ rfl
  have v3 := (show Rw _ h [Value.int .i64 (S.frm : Int), .int .i64 (S.n : Int), .int .u64 (S.epoch : Int), .slice aL S.l.length cL, .int .i64 (S.used : Int), .int .i64 (S.sure : Int), .int .i64 (S.gone : Int), .int .i64 S.e] 55 from P6.rh).cell 3 _ rfl
  have v4 := (show Rw _ h [Value.int .i64 (S.frm : Int), .int .i64 (S.n : Int), .int .u64 (S.epoch : Int), .slice aL S.l.length cL, .int .i64 (S.used : Int), .int .i64 (S.sure : Int), .int .i64 (S.gone : Int), .int .i64 S.e] 55 from P6.rh).cell 4 _ rfl
  have v5 := (show Rw _ h [Value.int .i64 (S.frm : Int), .int .i64 (S.n : Int), .int .u64 (S.epoch : Int), .slice aL S.l.length cL, .int .i64 (S.used : Int), .int .i64 (S.sure : Int), .int .i64 (S.gone : Int), .int .i64 S.e] 55 from P6.rh).cell 5 _ rfl
  have v6 := (show Rw _ h [Value.int .i64 (S.frm : Int), .int .i64 (S.n : Int), .int .u64 (S.epoch : Int), .slice aL S.l.length cL, .int .i64 (S.used : Int), .int .i64 (S.sure : Int), .int .i64 (S.gone : Int), .int .i64 S.e] 55 from P6.rh).cell 6 _ rfl
  have v7 := (show Rw _ h [Value.int .i64 (S.frm : Int), .int .i64 (S.n : Int), .int .u64 (S.epoch : Int), .slice aL S.l.length cL, .int .i64 (S.used : Int), .int .i64 (S.sure : Int), .int .i64 (S.gone : Int), .int .i64 S.e] 55 from P6.rh).cell 7 _ rfl
  go_wp2_with (first
    | (go_at_call 26; refine (HRA.out _ P6.rd P6.rs).mono ?_; rintro e w9 ⟨v9, s9, rfl, hv9, hs9, hb9, hl9, hls9⟩; have hv := hv9; have hs := hs9; obtain ⟨e1, g1, e2, g2, rfl, _, _⟩ := hv; obtain ⟨aM, cM, rfl, _⟩ := hs; have P9 := P6.below hb9; clear u0 u1 u2 u3 v0 v1 v2 v3 v4 v5 v6 v7)
    | (refine NB.wpList_store_agg_any rfl 50 (.tmp 10) (.tmp 159) rfl rfl g 0 #[Value.slice e1 D'.l.length g1, .slice e2 D'.waits.length g2, .int .i64 D'.left, .bool D'.down] rfl rfl 50 #[Value.slice a1 D.l.length c1, .slice a2 D.waits.length c2, .int .i64 D.left, .bool D.down] P9.rg (by kernel_rfl) (Nat.le_refl _) (by intro v hv; simp only [List.mem_cons, List.not_mem_nil, or_false] at hv; rcases hv with rfl | rfl | rfl | rfl <;> rfl) _ rfl ?_; intro w10 hg10 hc10 hs10; have K10 := (NB.Kp.refl (fun k => k = g ∨ k = h) w9).grown hg10 (fun k e => .inl (.inl (by cases e; rfl))); have rg10 : Rw w10 g (dvL D' e1 g1 e2 g2) 50 := hc10; have rh10 := P9.rh.keep ((NB.Kp.refl (fun k => k = g) w9).grown hg10 (fun k e => .inl (by cases e; rfl))) (fun e => hgh e.symm); clear hg10 hc10 hs10)
    | (refine NB.wpList_store_agg_any rfl 55 (.tmp 14) (.tmp 160) rfl rfl h 0 #[Value.int .i64 (S'.frm : Int), .int .i64 (S'.n : Int), .int .u64 (S'.epoch : Int), .slice aM S'.l.length cM, .int .i64 (S'.used : Int), .int .i64 (S'.sure : Int), .int .i64 (S'.gone : Int), .int .i64 S'.e] rfl rfl 55 #[Value.int .i64 (S.frm : Int), .int .i64 (S.n : Int), .int .u64 (S.epoch : Int), .slice aL S.l.length cL, .int .i64 (S.used : Int), .int .i64 (S.sure : Int), .int .i64 (S.gone : Int), .int .i64 S.e] rh10 (by kernel_rfl) (Nat.le_refl _) (by intro v hv; simp only [List.mem_cons, List.not_mem_nil, or_false] at hv; rcases hv with rfl | rfl | rfl | rfl | rfl | rfl | rfl | rfl <;> rfl) _ rfl ?_; intro w11 hg11 hc11 hs11; have K11 := K10.grown hg11 (fun k e => .inl (.inr (by cases e; rfl))); have rg11 := rg10.keep ((NB.Kp.refl (fun k => k = h) w10).grown hg11 (fun k e => .inl (by cases e; rfl))) (fun e => hgh e); have rh11 : Rw w11 h (sgL S' aM cM) 55 := hc11; clear hg11 hc11 hs11; have P11 := P6.put hb9 hv9 hs9 hl9 hls9 rfl rfl K11 rg11 rh11; have SS11 := P6.sdh SS6 hb9 K11 hl9 hls9 P11 (fun k hk => by subst hk; exact ⟨hjw, hj6⟩); clear K10 K11 rg10 rh10 rg11 rh11 P6 SS6 RA6 P9 hv9 hs9 hl9 hls9 hb9; have u0 := (show Rw _ g [Value.slice e1 D'.l.length g1, .slice e2 D'.waits.length g2, .int .i64 D'.left, .bool D'.down] 50 from P11.rg).cell 0 _ rfl; have u1 := (show Rw _ g [Value.slice e1 D'.l.length g1, .slice e2 D'.waits.length g2, .int .i64 D'.left, .bool D'.down] 50 from P11.rg).cell 1 _ rfl; have u2 := (show Rw _ g [Value.slice e1 D'.l.length g1, .slice e2 D'.waits.length g2, .int .i64 D'.left, .bool D'.down] 50 from P11.rg).cell 2 _ rfl; have u3 := (show Rw _ g [Value.slice e1 D'.l.length g1, .slice e2 D'.waits.length g2, .int .i64 D'.left, .bool D'.down] 50 from P11.rg).cell 3 _ rfl)
    | (go_at_call 33; refine (SS11.ddh.alike P11.rd (by have := HBN.out.wt; omega)).mono ?_; rintro e wU ⟨rfl, hbU⟩; have PU := P11.below hbU; have SU := SS11.below hbU; clear u0 u1 u2 u3; have v0 := (show Rw _ h [Value.int .i64 (S'.frm : Int), .int .i64 (S'.n : Int), .int .u64 (S'.epoch : Int), .slice aM S'.l.length cM, .int .i64 (S'.used : Int), .int .i64 (S'.sure : Int), .int .i64 (S'.gone : Int), .int .i64 S'.e] 55 from PU.rh).cell 0 _ rfl; have v1 := (show Rw _ h [Value.int .i64 (S'.frm : Int), .int .i64 (S'.n : Int), .int .u64 (S'.epoch : Int), .slice aM S'.l.length cM, .int .i64 (S'.used : Int), .int .i64 (S'.sure : Int), .int .i64 (S'.gone : Int), .int .i64 S'.e] 55 from PU.rh).cell 1 _ rfl; have v2 := (show Rw _ h [Value.int .i64 (S'.frm : Int), .int .i64 (S'.n : Int), .int .u64 (S'.epoch : Int), .slice aM S'.l.length cM, .int .i64 (S'.used : Int), .int .i64 (S'.sure : Int), .int .i64 (S'.gone : Int), .int .i64 S'.e] 55 from PU.rh).cell 2 _ rfl; have v3 := (show Rw _ h [Value.int .i64 (S'.frm : Int), .int .i64 (S'.n : Int), .int .u64 (S'.epoch : Int), .slice aM S'.l.length cM, .int .i64 (S'.used : Int), .int .i64 (S'.sure : Int), .int .i64 (S'.gone : Int), .int .i64 S'.e] 55 from PU.rh).cell 3 _ rfl; have v4 := (show Rw _ h [Value.int .i64 (S'.frm : Int), .int .i64 (S'.n : Int), .int .u64 (S'.epoch : Int), .slice aM S'.l.length cM, .int .i64 (S'.used : Int), .int .i64 (S'.sure : Int), .int .i64 (S'.gone : Int), .int .i64 S'.e] 55 from PU.rh).cell 4 _ rfl; have v5 := (show Rw _ h [Value.int .i64 (S'.frm : Int), .int .i64 (S'.n : Int), .int .u64 (S'.epoch : Int), .slice aM S'.l.length cM, .int .i64 (S'.used : Int), .int .i64 (S'.sure : Int), .int .i64 (S'.gone : Int), .int .i64 S'.e] 55 from PU.rh).cell 5 _ rfl; have v6 := (show Rw _ h [Value.int .i64 (S'.frm : Int), .int .i64 (S'.n : Int), .int .u64 (S'.epoch : Int), .slice aM S'.l.length cM, .int .i64 (S'.used : Int), .int .i64 (S'.sure : Int), .int .i64 (S'.gone : Int), .int .i64 S'.e] 55 from PU.rh).cell 6 _ rfl; have v7 := (show Rw _ h [Value.int .i64 (S'.frm : Int), .int .i64 (S'.n : Int), .int .u64 (S'.epoch : Int), .slice aM S'.l.length cM, .int .i64 (S'.used : Int), .int .i64 (S'.sure : Int), .int .i64 (S'.gone : Int), .int .i64 S'.e] 55 from PU.rh).cell 7 _ rfl)
    | (go_at_call 34; refine (has_any _ _ _ q p _ _ _ SU PU.rs (by have := HBN.out.ll; have := HBN.out.us; have := HBN.out.n; omega) (fun b hb => by have := HBN.out.bl b hb; omega) (by have := HBN.out.n; omega) (by have := HBN.out.us; have := HBN.out.n; omega)).mono ?_; rintro e wV ⟨rfl, hbV⟩; have PV := PU.below hbV; have SW := (SU.below hbV).dropX))
  exact HEND.out _ _ _ _ _ _ _ _ _ _ _ _ _ _ _ _ _ _ _ _ _ _ _ _ _ _ _ _ _ _ _ _ _ _ _ _ _ _ _ _ _ _ _ _ _ _ _ _ _ _ _ _ _ _ _ _ _ _ _ _ _ _ _ _ _ _ _ _ _ _ _ _ _ _ _ _ _ _ _ _ _ _ _ _ _ _ _ _ _ _ _ _ _ _ _ _ _ _ _ _ _ _ _ _ _ _ _ _ _ _ _ _ _ _ _ _ _ _ _ _ _ _ _ _ _ _ _ _ _ _ _ _ _ _ _ _ _ _ _ _ _ _ _ _ _ _ _ _ _ _ _ _ _ _ _ _ _ _ _ _ _ _ _ _ _ _ _ _ _ _ _ _ _ _ _ _ _ _ _ _ _ _ _ _ _ _ _ _ _ _ _ _ _ _ _ _ _ q _ _ _ _ _ _ _ _ _ PV SW HBN.out

set_option maxRecDepth 100000 in
set_option maxHeartbeats 32000000 in
theorem spl_B6 (w wr : World) (p g h N0 n c0 b o : Nat) (frm : Int) (hN1 : 1 ≤ N0) (hN24 : N0 ≤ 24) (hf64 : I64 frm) (hbd : n ≤ 9223372036854775807 ∧ c0 ≤ 9223372036854775807) (hnc : n ≤ c0)
    (k q : Nat) (D : Dk) (S : Sg) (a1 : Option Addr) (c1 : Nat) (a2 : Option Addr) (c2 : Nat) (aL : Option Addr) (cL : Nat) (hlt : k < n) (hk30 : k < 30) (P : Ps w wr g h D S a1 c1 a2 c2 aL cL) (SS : SdH (Hb g h (dvV D a1 c1 a2 c2) (svV S aL cL) (fun _ => False)) w wr q p D S) (HB : Bd N0 k D S)
    (K N : Int) (long : Bool) (a' : Option Addr) (c'' : Nat) (bs : List UInt8) (wN : I64 N) (q0 : wr.cell? ⟨b, o + k * 4, none⟩ = some (.int .i64 K)) (q1 : wr.cell? ⟨b, o + k * 4 + 1, none⟩ = some (.int .i64 N)) (q2 : wr.cell? ⟨b, o + k * 4 + 2, none⟩ = some (.slice a' bs.length c'')) (q3 : wr.cell? ⟨b, o + k * 4 + 3, none⟩ = some (.bool long))
    (hbs0 : NB.RdB w a' bs.length c'' bs) (h60 : ¬ 60 < bs.length) (hkv : bits .and .i64 K 15 = 6)
    (y3 y4 y5 y7 y9 y11 y22 y23 y24 y25 y26 y27 y28 y29 y30 y31 y32 y33 y34 y35 y36 y37 y38 y39 y40 y41 y42 y43 y44 y45 y46 y47 y48 y49 y50 y51 y52 y53 y54 y55 y56 y57 y58 y59 y60 y61 y62 y63 y64 y65 y66 : Value) (x6 x13 x15 x17 x18 x19 x20 x21 x67 x68 x69 x70 x71 x72 x73 x74 x75 x76 x77 x78 x79 x80 x81 x82 x83 x84 x85 x86 x87 x88 x89 x90 x91 x92 x93 x94 x95 x96 x97 x98 x99 x100 x101 x102 x103 x104 x105 x106 x107 x108 x109 x110 x111 x112 x113 x114 x115 x116 x117 x118 x119 x120 x121 x122 x123 x124 x125 x126 x127 x128 x129 x130 x131 x132 x133 x134 x135 x136 x137 x138 x139 x140 x141 x142 x143 x144 x145 x146 x147 x148 x149 x150 x151 x152 x153 x154 x155 x156 x157 x158 x159 x160 x161 x162 x163 x164 x165 x166 x167 x168 x169 x170 x171 x172 x173 x174 x175 x176 x177 x178 x179 x180 x181 x182 x183 x184 x185 x186 x187 x188 x189 x190 x191 x192 x193 x194 x195 x196 x197 x198 x199 x200 x201 x202 x203 x204 x205 x206 x207 x208 x209 x210 x211 x212 x213 x214 x215 x216 x217 x218 x219 x220 x221 x222 x223 x224 x225 x226 x227 x228 x229 x230 x231 x232 x233 x234 x235 x236 x237 x238 x239 x240 x241 x242 x243 x244 x245 x246 x247 x248 x249 x250 x251 x252 x253 x254 x255 : Value) (KK : Act → World → Prop) (QQ : Exit → Act → World → Prop)
    (HEND : Hid (∀ (z6 z13 z15 z17 z18 z19 z20 z21 z67 z68 z69 z70 z71 z72 z73 z74 z75 z76 z77 z78 z79 z80 z81 z82 z83 z84 z85 z86 z87 z88 z89 z90 z91 z92 z93 z94 z95 z96 z97 z98 z99 z100 z101 z102 z103 z104 z105 z106 z107 z108 z109 z110 z111 z112 z113 z114 z115 z116 z117 z118 z119 z120 z121 z122 z123 z124 z125 z126 z127 z128 z129 z130 z131 z132 z133 z134 z135 z136 z137 z138 z139 z140 z141 z142 z143 z144 z145 z146 z147 z148 z149 z150 z151 z152 z153 z154 z155 z156 z157 z158 z159 z160 z161 z162 z163 z164 z165 z166 z167 z168 z169 z170 z171 z172 z173 z174 z175 z176 z177 z178 z179 z180 z181 z182 z183 z184 z185 z186 z187 z188 z189 z190 z191 z192 z193 z194 z195 z196 z197 z198 z199 z200 z201 z202 z203 z204 z205 z206 z207 z208 z209 z210 z211 z212 z213 z214 z215 z216 z217 z218 z219 z220 z221 z222 z223 z224 z225 z226 z227 z228 z229 z230 z231 z232 z233 z234 z235 z236 z237 z238 z239 z240 z241 z242 z243 z244 z245 z246 z247 z248 z249 z250 z251 z252 z253 z254 z255 : Value) (q : Nat) (D : Dk) (S : Sg) (a1 : Option Addr) (c1 : Nat) (a2 : Option Addr) (c2 : Nat) (aL : Option Addr) (cL : Nat) (v : World), Ps w v g h D S a1 c1 a2 c2 aL cL → SdH (Hb g h (dvV D a1 c1 a2 c2) (svV S aL cL) (fun _ => False)) w v q p D S → Bd N0 (k + 1) D S → KK ⟨#[.int .i64 (N0 : Int), .int .i64 frm, .slice (some ⟨b, o, none⟩) n c0, y3, y4, y5, z6, y7, .pointer (some ⟨p, 0, none⟩), y9, .pointer (some ⟨g, 0, none⟩), y11, .pointer (some ⟨q, 0, none⟩), z13, .pointer (some ⟨h, 0, none⟩), z15, .int .i64 ((k : Int) + 1), z17, z18, z19, z20, z21, y22, y23, y24, y25, y26, y27, y28, y29, y30, y31, y32, y33, y34, y35, y36, y37, y38, y39, y40, y41, y42, y43, y44, y45, y46, y47, y48, y49, y50, y51, y52, y53, y54, y55, y56, y57, y58, y59, y60, y61, y62, y63, y64, y65, y66, z67, z68, z69, z70, z71, z72, z73, z74, z75, z76, z77, z78, z79, z80, z81, z82, z83, z84, z85, z86, z87, z88, z89, z90, z91, z92, z93, z94, z95, z96, z97, z98, z99, z100, z101, z102, z103, z104, z105, z106, z107, z108, z109, z110, z111, z112, z113, z114, z115, z116, z117, z118, z119, z120, z121, z122, z123, z124, z125, z126, z127, z128, z129, z130, z131, z132, z133, z134, z135, z136, z137, z138, z139, z140, z141, z142, z143, z144, z145, z146, z147, z148, z149, z150, z151, z152, z153, z154, z155, z156, z157, z158, z159, z160, z161, z162, z163, z164, z165, z166, z167, z168, z169, z170, z171, z172, z173, z174, z175, z176, z177, z178, z179, z180, z181, z182, z183, z184, z185, z186, z187, z188, z189, z190, z191, z192, z193, z194, z195, z196, z197, z198, z199, z200, z201, z202, z203, z204, z205, z206, z207, z208, z209, z210, z211, z212, z213, z214, z215, z216, z217, z218, z219, z220, z221, z222, z223, z224, z225, z226, z227, z228, z229, z230, z231, z232, z233, z234, z235, z236, z237, z238, z239, z240, z241, z242, z243, z244, z245, z246, z247, z248, z249, z250, z251, z252, z253, z254, z255], []⟩ v)) :
    Code.wp Try.prog splBody (Exit.then KK QQ) ⟨#[.int .i64 (N0 : Int), .int .i64 frm, .slice (some ⟨b, o, none⟩) n c0, y3, y4, y5, x6, y7, .pointer (some ⟨p, 0, none⟩), y9, .pointer (some ⟨g, 0, none⟩), y11, .pointer (some ⟨q, 0, none⟩), x13, .pointer (some ⟨h, 0, none⟩), x15, .int .i64 ((k : Int)), x17, x18, x19, x20, x21, y22, y23, y24, y25, y26, y27, y28, y29, y30, y31, y32, y33, y34, y35, y36, y37, y38, y39, y40, y41, y42, y43, y44, y45, y46, y47, y48, y49, y50, y51, y52, y53, y54, y55, y56, y57, y58, y59, y60, y61, y62, y63, y64, y65, y66, x67, x68, x69, x70, x71, x72, x73, x74, x75, x76, x77, x78, x79, x80, x81, x82, x83, x84, x85, x86, x87, x88, x89, x90, x91, x92, x93, x94, x95, x96, x97, x98, x99, x100, x101, x102, x103, x104, x105, x106, x107, x108, x109, x110, x111, x112, x113, x114, x115, x116, x117, x118, x119, x120, x121, x122, x123, x124, x125, x126, x127, x128, x129, x130, x131, x132, x133, x134, x135, x136, x137, x138, x139, x140, x141, x142, x143, x144, x145, x146, x147, x148, x149, x150, x151, x152, x153, x154, x155, x156, x157, x158, x159, x160, x161, x162, x163, x164, x165, x166, x167, x168, x169, x170, x171, x172, x173, x174, x175, x176, x177, x178, x179, x180, x181, x182, x183, x184, x185, x186, x187, x188, x189, x190, x191, x192, x193, x194, x195, x196, x197, x198, x199, x200, x201, x202, x203, x204, x205, x206, x207, x208, x209, x210, x211, x212, x213, x214, x215, x216, x217, x218, x219, x220, x221, x222, x223, x224, x225, x226, x227, x228, x229, x230, x231, x232, x233, x234, x235, x236, x237, x238, x239, x240, x241, x242, x243, x244, x245, x246, x247, x248, x249, x250, x251, x252, x253, x254, x255], []⟩ wr := by
  conv => arg 2; whnf
  have hki : (k : Int) < (n : Int) := by omega
  have hk30i : (k : Int) < 30 := by omega
  have hbb := Rd.bound hbs0
  have h60i : ¬ (60 : Int) < (bs.length : Int) := by omega
  obtain ⟨hlf, hln, hl64, hw64⟩ := SS.dfacts
  have hB := SS.low
  have RAe : Rw (wr.alloc (.cells #[Value.int .i64 K, .int .i64 N, .slice a' bs.length c'', .bool long] 59)) wr.heap.size [Value.int .i64 K, .int .i64 N, .slice a' bs.length c'', .bool long] 59 := rw_new wr [Value.int .i64 K, .int .i64 N, .slice a' bs.length c'', .bool long] _ rfl
  have hob := oneB' wr (.cells #[Value.int .i64 K, .int .i64 N, .slice a' bs.length c'', .bool long] 59)
  have Pe := P.below hob
  have SSe := SS.addX hob wr.heap.size (Nat.le_refl _) RAe.lt
  have Be := bel' hB hob hB.size
  have hjw : w.heap.size ≤ wr.heap.size := hB.size
  obtain ⟨we, hwe⟩ : ∃ we, wr.alloc (.cells #[Value.int .i64 K, .int .i64 N, .slice a' bs.length c'', .bool long] 59) = we := ⟨_, rfl⟩
  rw [hwe] at RAe Pe SSe Be
  have m0 := RAe.cell 0 _ rfl
  have m1 := RAe.cell 1 _ rfl
  have m2 := RAe.cell 2 _ rfl
  have m3 := RAe.cell 3 _ rfl
  have HL64 := Go.Lib.hid hl64; have HW64 := Go.Lib.hid hw64
  have hgh := P.gh
  have hwt := HB.wt
  clear hl64 hw64 hob P SS hB
  obtain ⟨D', S', er, hM⟩ : ∃ D' S' er, synM D S = (D', S', er) := ⟨_, _, _, rfl⟩
  have hbn := HB.syn
  rw [hM] at hbn
  have HBN : Hid (Bd N0 (k + 1) D' S') := Go.Lib.hid hbn
  have hll := HB.ll; have hus := HB.us; have hsn := HB.n
  have hra := fun v hd hs => rsyn_any v (dvV D a1 c1 a2 c2) (svV S aL cL) D S hd hs hlf.1 hlf.2 hln (by omega) (fun x hx => (HW64.out x hx).2) (by omega)
  rw [hM] at hra
  unfold SynR dvV rdV svV sgL at hra
  simp only at hra
  have HRA := Go.Lib.hid hra
  have hqa := qh_sync _ w we q p D S SSe (by omega)
  rw [hM] at hqa
  have HQA := Go.Lib.hid hqa
  clear hbn hM hra hqa
  go_wp2_with fail
  go_at_call 13
  refine HQA.out.mono ?_
  rintro e w6 ⟨rfl, SS6, K6⟩
  replace SS6 : SdH (Hb g h (dvV D a1 c1 a2 c2) (svV S aL cL) (fun k => k = wr.heap.size)) w w6 q p D' S' := SS6
  have P6 := Pe.keep K6 (fun k hk hn => hn hk)
  have RA6 := RAe.keep K6 (fun hn => hn (.inr (.inr (.inl rfl))))
  have hj6 := RA6.lt
  clear Pe SSe RAe Be m0 m1 m2 m3 K6
  have u0 := (show Rw _ g [Value.slice a1 D.l.length c1, .slice a2 D.waits.length c2, .int .i64 D.left, .bool D.down] 50 from P6.rg).cell 0 _ rfl
  have u1 := (show Rw _ g [Value.slice a1 D.l.length c1, .slice a2 D.waits.length c2, .int .i64 D.left, .bool D.down] 50 from P6.rg).cell 1 _ rfl
  have u2 := (show Rw _ g [Value.slice a1 D.l.length c1, .slice a2 D.waits.length c2, .int .i64 D.left, .bool D.down] 50 from P6.rg).cell 2 _ rfl
  have u3 := (show Rw _ g [Value.slice a1 D.l.length c1, .slice a2 D.waits.length c2, .int .i64 D.left, .bool D.down] 50 from P6.rg).cell 3 _ rfl
  have v0 := (show Rw _ h [Value.int .i64 (S.frm : Int), .int .i64 (S.n : Int), .int .u64 (S.epoch : Int), .slice aL S.l.length cL, .int .i64 (S.used : Int), .int .i64 (S.sure : Int), .int .i64 (S.gone : Int), .int .i64 S.e] 55 from P6.rh).cell 0 _ rfl
  have v1 := (show Rw _ h [Value.int .i64 (S.frm : Int), .int .i64 (S.n : Int), .int .u64 (S.epoch : Int), .slice aL S.l.length cL, .int .i64 (S.used : Int), .int .i64 (S.sure : Int), .int .i64 (S.gone : Int), .int .i64 S.e] 55 from P6.rh).cell 1 _ rfl
  have v2 := (show Rw _ h [Value.int .i64 (S.frm : Int), .int .i64 (S.n : Int), .int .u64 (S.epoch : Int), .slice aL S.l.length cL, .int .i64 (S.used : Int), .int .i64 (S.sure : Int), .int .i64 (S.gone : Int), .int .i64 S.e] 55 from P6.rh).cell 2 _ rfl
  have v3 := (show Rw _ h [Value.int .i64 (S.frm : Int), .int .i64 (S.n : Int), .int .u64 (S.epoch : Int), .slice aL S.l.length cL, .int .i64 (S.used : Int), .int .i64 (S.sure : Int), .int .i64 (S.gone : Int), .int .i64 S.e] 55 from P6.rh).cell 3 _ rfl
  have v4 := (show Rw _ h [Value.int .i64 (S.frm : Int), .int .i64 (S.n : Int), .int .u64 (S.epoch : Int), .slice aL S.l.length cL, .int .i64 (S.used : Int), .int .i64 (S.sure : Int), .int .i64 (S.gone : Int), .int .i64 S.e] 55 from P6.rh).cell 4 _ rfl
  have v5 := (show Rw _ h [Value.int .i64 (S.frm : Int), .int .i64 (S.n : Int), .int .u64 (S.epoch : Int), .slice aL S.l.length cL, .int .i64 (S.used : Int), .int .i64 (S.sure : Int), .int .i64 (S.gone : Int), .int .i64 S.e] 55 from P6.rh).cell 5 _ rfl
  have v6 := (show Rw _ h [Value.int .i64 (S.frm : Int), .int .i64 (S.n : Int), .int .u64 (S.epoch : Int), .slice aL S.l.length cL, .int .i64 (S.used : Int), .int .i64 (S.sure : Int), .int .i64 (S.gone : Int), .int .i64 S.e] 55 from P6.rh).cell 6 _ rfl
  have v7 := (show Rw _ h [Value.int .i64 (S.frm : Int), .int .i64 (S.n : Int), .int .u64 (S.epoch : Int), .slice aL S.l.length cL, .int .i64 (S.used : Int), .int .i64 (S.sure : Int), .int .i64 (S.gone : Int), .int .i64 S.e] 55 from P6.rh).cell 7 _ rfl
  go_wp2_with (first
    | (go_at_call 26; refine (HRA.out _ P6.rd P6.rs).mono ?_; rintro e w9 ⟨v9, s9, rfl, hv9, hs9, hb9, hl9, hls9⟩; have hv := hv9; have hs := hs9; obtain ⟨e1, g1, e2, g2, rfl, _, _⟩ := hv; obtain ⟨aM, cM, rfl, _⟩ := hs; have P9 := P6.below hb9; clear u0 u1 u2 u3 v0 v1 v2 v3 v4 v5 v6 v7)
    | (refine NB.wpList_store_agg_any rfl 50 (.tmp 10) (.tmp 159) rfl rfl g 0 #[Value.slice e1 D'.l.length g1, .slice e2 D'.waits.length g2, .int .i64 D'.left, .bool D'.down] rfl rfl 50 #[Value.slice a1 D.l.length c1, .slice a2 D.waits.length c2, .int .i64 D.left, .bool D.down] P9.rg (by kernel_rfl) (Nat.le_refl _) (by intro v hv; simp only [List.mem_cons, List.not_mem_nil, or_false] at hv; rcases hv with rfl | rfl | rfl | rfl <;> rfl) _ rfl ?_; intro w10 hg10 hc10 hs10; have K10 := (NB.Kp.refl (fun k => k = g ∨ k = h) w9).grown hg10 (fun k e => .inl (.inl (by cases e; rfl))); have rg10 : Rw w10 g (dvL D' e1 g1 e2 g2) 50 := hc10; have rh10 := P9.rh.keep ((NB.Kp.refl (fun k => k = g) w9).grown hg10 (fun k e => .inl (by cases e; rfl))) (fun e => hgh e.symm); clear hg10 hc10 hs10)
    | (refine NB.wpList_store_agg_any rfl 55 (.tmp 14) (.tmp 160) rfl rfl h 0 #[Value.int .i64 (S'.frm : Int), .int .i64 (S'.n : Int), .int .u64 (S'.epoch : Int), .slice aM S'.l.length cM, .int .i64 (S'.used : Int), .int .i64 (S'.sure : Int), .int .i64 (S'.gone : Int), .int .i64 S'.e] rfl rfl 55 #[Value.int .i64 (S.frm : Int), .int .i64 (S.n : Int), .int .u64 (S.epoch : Int), .slice aL S.l.length cL, .int .i64 (S.used : Int), .int .i64 (S.sure : Int), .int .i64 (S.gone : Int), .int .i64 S.e] rh10 (by kernel_rfl) (Nat.le_refl _) (by intro v hv; simp only [List.mem_cons, List.not_mem_nil, or_false] at hv; rcases hv with rfl | rfl | rfl | rfl | rfl | rfl | rfl | rfl <;> rfl) _ rfl ?_; intro w11 hg11 hc11 hs11; have K11 := K10.grown hg11 (fun k e => .inl (.inr (by cases e; rfl))); have rg11 := rg10.keep ((NB.Kp.refl (fun k => k = h) w10).grown hg11 (fun k e => .inl (by cases e; rfl))) (fun e => hgh e); have rh11 : Rw w11 h (sgL S' aM cM) 55 := hc11; clear hg11 hc11 hs11; have P11 := P6.put hb9 hv9 hs9 hl9 hls9 rfl rfl K11 rg11 rh11; have SS11 := P6.sdh SS6 hb9 K11 hl9 hls9 P11 (fun k hk => by subst hk; exact ⟨hjw, hj6⟩); clear K10 K11 rg10 rh10 rg11 rh11 P6 SS6 RA6 P9 hv9 hs9 hl9 hls9 hb9; have u0 := (show Rw _ g [Value.slice e1 D'.l.length g1, .slice e2 D'.waits.length g2, .int .i64 D'.left, .bool D'.down] 50 from P11.rg).cell 0 _ rfl; have u1 := (show Rw _ g [Value.slice e1 D'.l.length g1, .slice e2 D'.waits.length g2, .int .i64 D'.left, .bool D'.down] 50 from P11.rg).cell 1 _ rfl; have u2 := (show Rw _ g [Value.slice e1 D'.l.length g1, .slice e2 D'.waits.length g2, .int .i64 D'.left, .bool D'.down] 50 from P11.rg).cell 2 _ rfl; have u3 := (show Rw _ g [Value.slice e1 D'.l.length g1, .slice e2 D'.waits.length g2, .int .i64 D'.left, .bool D'.down] 50 from P11.rg).cell 3 _ rfl)
    | (go_at_call 33; refine (SS11.ddh.alike P11.rd (by have := HBN.out.wt; omega)).mono ?_; rintro e wU ⟨rfl, hbU⟩; have PU := P11.below hbU; have SU := SS11.below hbU; clear u0 u1 u2 u3; have v0 := (show Rw _ h [Value.int .i64 (S'.frm : Int), .int .i64 (S'.n : Int), .int .u64 (S'.epoch : Int), .slice aM S'.l.length cM, .int .i64 (S'.used : Int), .int .i64 (S'.sure : Int), .int .i64 (S'.gone : Int), .int .i64 S'.e] 55 from PU.rh).cell 0 _ rfl; have v1 := (show Rw _ h [Value.int .i64 (S'.frm : Int), .int .i64 (S'.n : Int), .int .u64 (S'.epoch : Int), .slice aM S'.l.length cM, .int .i64 (S'.used : Int), .int .i64 (S'.sure : Int), .int .i64 (S'.gone : Int), .int .i64 S'.e] 55 from PU.rh).cell 1 _ rfl; have v2 := (show Rw _ h [Value.int .i64 (S'.frm : Int), .int .i64 (S'.n : Int), .int .u64 (S'.epoch : Int), .slice aM S'.l.length cM, .int .i64 (S'.used : Int), .int .i64 (S'.sure : Int), .int .i64 (S'.gone : Int), .int .i64 S'.e] 55 from PU.rh).cell 2 _ rfl; have v3 := (show Rw _ h [Value.int .i64 (S'.frm : Int), .int .i64 (S'.n : Int), .int .u64 (S'.epoch : Int), .slice aM S'.l.length cM, .int .i64 (S'.used : Int), .int .i64 (S'.sure : Int), .int .i64 (S'.gone : Int), .int .i64 S'.e] 55 from PU.rh).cell 3 _ rfl; have v4 := (show Rw _ h [Value.int .i64 (S'.frm : Int), .int .i64 (S'.n : Int), .int .u64 (S'.epoch : Int), .slice aM S'.l.length cM, .int .i64 (S'.used : Int), .int .i64 (S'.sure : Int), .int .i64 (S'.gone : Int), .int .i64 S'.e] 55 from PU.rh).cell 4 _ rfl; have v5 := (show Rw _ h [Value.int .i64 (S'.frm : Int), .int .i64 (S'.n : Int), .int .u64 (S'.epoch : Int), .slice aM S'.l.length cM, .int .i64 (S'.used : Int), .int .i64 (S'.sure : Int), .int .i64 (S'.gone : Int), .int .i64 S'.e] 55 from PU.rh).cell 5 _ rfl; have v6 := (show Rw _ h [Value.int .i64 (S'.frm : Int), .int .i64 (S'.n : Int), .int .u64 (S'.epoch : Int), .slice aM S'.l.length cM, .int .i64 (S'.used : Int), .int .i64 (S'.sure : Int), .int .i64 (S'.gone : Int), .int .i64 S'.e] 55 from PU.rh).cell 6 _ rfl; have v7 := (show Rw _ h [Value.int .i64 (S'.frm : Int), .int .i64 (S'.n : Int), .int .u64 (S'.epoch : Int), .slice aM S'.l.length cM, .int .i64 (S'.used : Int), .int .i64 (S'.sure : Int), .int .i64 (S'.gone : Int), .int .i64 S'.e] 55 from PU.rh).cell 7 _ rfl)
    | (go_at_call 34; refine (has_any _ _ _ q p _ _ _ SU PU.rs (by have := HBN.out.ll; have := HBN.out.us; have := HBN.out.n; omega) (fun b hb => by have := HBN.out.bl b hb; omega) (by have := HBN.out.n; omega) (by have := HBN.out.us; have := HBN.out.n; omega)).mono ?_; rintro e wV ⟨rfl, hbV⟩; have PV := PU.below hbV; have SW := (SU.below hbV).dropX))
  exact HEND.out _ _ _ _ _ _ _ _ _ _ _ _ _ _ _ _ _ _ _ _ _ _ _ _ _ _ _ _ _ _ _ _ _ _ _ _ _ _ _ _ _ _ _ _ _ _ _ _ _ _ _ _ _ _ _ _ _ _ _ _ _ _ _ _ _ _ _ _ _ _ _ _ _ _ _ _ _ _ _ _ _ _ _ _ _ _ _ _ _ _ _ _ _ _ _ _ _ _ _ _ _ _ _ _ _ _ _ _ _ _ _ _ _ _ _ _ _ _ _ _ _ _ _ _ _ _ _ _ _ _ _ _ _ _ _ _ _ _ _ _ _ _ _ _ _ _ _ _ _ _ _ _ _ _ _ _ _ _ _ _ _ _ _ _ _ _ _ _ _ _ _ _ _ _ _ _ _ _ _ _ _ _ _ _ _ _ _ _ _ _ _ _ _ _ _ _ _ q _ _ _ _ _ _ _ _ _ PV SW HBN.out

set_option maxRecDepth 100000 in
set_option maxHeartbeats 32000000 in
theorem spl_B7 (w wr : World) (p g h N0 n c0 b o : Nat) (frm : Int) (hN1 : 1 ≤ N0) (hN24 : N0 ≤ 24) (hf64 : I64 frm) (hbd : n ≤ 9223372036854775807 ∧ c0 ≤ 9223372036854775807) (hnc : n ≤ c0)
    (k q : Nat) (D : Dk) (S : Sg) (a1 : Option Addr) (c1 : Nat) (a2 : Option Addr) (c2 : Nat) (aL : Option Addr) (cL : Nat) (hlt : k < n) (hk30 : k < 30) (P : Ps w wr g h D S a1 c1 a2 c2 aL cL) (SS : SdH (Hb g h (dvV D a1 c1 a2 c2) (svV S aL cL) (fun _ => False)) w wr q p D S) (HB : Bd N0 k D S)
    (K N : Int) (long : Bool) (a' : Option Addr) (c'' : Nat) (bs : List UInt8) (wN : I64 N) (q0 : wr.cell? ⟨b, o + k * 4, none⟩ = some (.int .i64 K)) (q1 : wr.cell? ⟨b, o + k * 4 + 1, none⟩ = some (.int .i64 N)) (q2 : wr.cell? ⟨b, o + k * 4 + 2, none⟩ = some (.slice a' bs.length c'')) (q3 : wr.cell? ⟨b, o + k * 4 + 3, none⟩ = some (.bool long))
    (hbs0 : NB.RdB w a' bs.length c'' bs) (h60 : ¬ 60 < bs.length) (hkv : bits .and .i64 K 15 = 7)
    (y3 y4 y5 y7 y9 y11 y22 y23 y24 y25 y26 y27 y28 y29 y30 y31 y32 y33 y34 y35 y36 y37 y38 y39 y40 y41 y42 y43 y44 y45 y46 y47 y48 y49 y50 y51 y52 y53 y54 y55 y56 y57 y58 y59 y60 y61 y62 y63 y64 y65 y66 : Value) (x6 x13 x15 x17 x18 x19 x20 x21 x67 x68 x69 x70 x71 x72 x73 x74 x75 x76 x77 x78 x79 x80 x81 x82 x83 x84 x85 x86 x87 x88 x89 x90 x91 x92 x93 x94 x95 x96 x97 x98 x99 x100 x101 x102 x103 x104 x105 x106 x107 x108 x109 x110 x111 x112 x113 x114 x115 x116 x117 x118 x119 x120 x121 x122 x123 x124 x125 x126 x127 x128 x129 x130 x131 x132 x133 x134 x135 x136 x137 x138 x139 x140 x141 x142 x143 x144 x145 x146 x147 x148 x149 x150 x151 x152 x153 x154 x155 x156 x157 x158 x159 x160 x161 x162 x163 x164 x165 x166 x167 x168 x169 x170 x171 x172 x173 x174 x175 x176 x177 x178 x179 x180 x181 x182 x183 x184 x185 x186 x187 x188 x189 x190 x191 x192 x193 x194 x195 x196 x197 x198 x199 x200 x201 x202 x203 x204 x205 x206 x207 x208 x209 x210 x211 x212 x213 x214 x215 x216 x217 x218 x219 x220 x221 x222 x223 x224 x225 x226 x227 x228 x229 x230 x231 x232 x233 x234 x235 x236 x237 x238 x239 x240 x241 x242 x243 x244 x245 x246 x247 x248 x249 x250 x251 x252 x253 x254 x255 : Value) (KK : Act → World → Prop) (QQ : Exit → Act → World → Prop)
    (HEND : Hid (∀ (z6 z13 z15 z17 z18 z19 z20 z21 z67 z68 z69 z70 z71 z72 z73 z74 z75 z76 z77 z78 z79 z80 z81 z82 z83 z84 z85 z86 z87 z88 z89 z90 z91 z92 z93 z94 z95 z96 z97 z98 z99 z100 z101 z102 z103 z104 z105 z106 z107 z108 z109 z110 z111 z112 z113 z114 z115 z116 z117 z118 z119 z120 z121 z122 z123 z124 z125 z126 z127 z128 z129 z130 z131 z132 z133 z134 z135 z136 z137 z138 z139 z140 z141 z142 z143 z144 z145 z146 z147 z148 z149 z150 z151 z152 z153 z154 z155 z156 z157 z158 z159 z160 z161 z162 z163 z164 z165 z166 z167 z168 z169 z170 z171 z172 z173 z174 z175 z176 z177 z178 z179 z180 z181 z182 z183 z184 z185 z186 z187 z188 z189 z190 z191 z192 z193 z194 z195 z196 z197 z198 z199 z200 z201 z202 z203 z204 z205 z206 z207 z208 z209 z210 z211 z212 z213 z214 z215 z216 z217 z218 z219 z220 z221 z222 z223 z224 z225 z226 z227 z228 z229 z230 z231 z232 z233 z234 z235 z236 z237 z238 z239 z240 z241 z242 z243 z244 z245 z246 z247 z248 z249 z250 z251 z252 z253 z254 z255 : Value) (q : Nat) (D : Dk) (S : Sg) (a1 : Option Addr) (c1 : Nat) (a2 : Option Addr) (c2 : Nat) (aL : Option Addr) (cL : Nat) (v : World), Ps w v g h D S a1 c1 a2 c2 aL cL → SdH (Hb g h (dvV D a1 c1 a2 c2) (svV S aL cL) (fun _ => False)) w v q p D S → Bd N0 (k + 1) D S → KK ⟨#[.int .i64 (N0 : Int), .int .i64 frm, .slice (some ⟨b, o, none⟩) n c0, y3, y4, y5, z6, y7, .pointer (some ⟨p, 0, none⟩), y9, .pointer (some ⟨g, 0, none⟩), y11, .pointer (some ⟨q, 0, none⟩), z13, .pointer (some ⟨h, 0, none⟩), z15, .int .i64 ((k : Int) + 1), z17, z18, z19, z20, z21, y22, y23, y24, y25, y26, y27, y28, y29, y30, y31, y32, y33, y34, y35, y36, y37, y38, y39, y40, y41, y42, y43, y44, y45, y46, y47, y48, y49, y50, y51, y52, y53, y54, y55, y56, y57, y58, y59, y60, y61, y62, y63, y64, y65, y66, z67, z68, z69, z70, z71, z72, z73, z74, z75, z76, z77, z78, z79, z80, z81, z82, z83, z84, z85, z86, z87, z88, z89, z90, z91, z92, z93, z94, z95, z96, z97, z98, z99, z100, z101, z102, z103, z104, z105, z106, z107, z108, z109, z110, z111, z112, z113, z114, z115, z116, z117, z118, z119, z120, z121, z122, z123, z124, z125, z126, z127, z128, z129, z130, z131, z132, z133, z134, z135, z136, z137, z138, z139, z140, z141, z142, z143, z144, z145, z146, z147, z148, z149, z150, z151, z152, z153, z154, z155, z156, z157, z158, z159, z160, z161, z162, z163, z164, z165, z166, z167, z168, z169, z170, z171, z172, z173, z174, z175, z176, z177, z178, z179, z180, z181, z182, z183, z184, z185, z186, z187, z188, z189, z190, z191, z192, z193, z194, z195, z196, z197, z198, z199, z200, z201, z202, z203, z204, z205, z206, z207, z208, z209, z210, z211, z212, z213, z214, z215, z216, z217, z218, z219, z220, z221, z222, z223, z224, z225, z226, z227, z228, z229, z230, z231, z232, z233, z234, z235, z236, z237, z238, z239, z240, z241, z242, z243, z244, z245, z246, z247, z248, z249, z250, z251, z252, z253, z254, z255], []⟩ v)) :
    Code.wp Try.prog splBody (Exit.then KK QQ) ⟨#[.int .i64 (N0 : Int), .int .i64 frm, .slice (some ⟨b, o, none⟩) n c0, y3, y4, y5, x6, y7, .pointer (some ⟨p, 0, none⟩), y9, .pointer (some ⟨g, 0, none⟩), y11, .pointer (some ⟨q, 0, none⟩), x13, .pointer (some ⟨h, 0, none⟩), x15, .int .i64 ((k : Int)), x17, x18, x19, x20, x21, y22, y23, y24, y25, y26, y27, y28, y29, y30, y31, y32, y33, y34, y35, y36, y37, y38, y39, y40, y41, y42, y43, y44, y45, y46, y47, y48, y49, y50, y51, y52, y53, y54, y55, y56, y57, y58, y59, y60, y61, y62, y63, y64, y65, y66, x67, x68, x69, x70, x71, x72, x73, x74, x75, x76, x77, x78, x79, x80, x81, x82, x83, x84, x85, x86, x87, x88, x89, x90, x91, x92, x93, x94, x95, x96, x97, x98, x99, x100, x101, x102, x103, x104, x105, x106, x107, x108, x109, x110, x111, x112, x113, x114, x115, x116, x117, x118, x119, x120, x121, x122, x123, x124, x125, x126, x127, x128, x129, x130, x131, x132, x133, x134, x135, x136, x137, x138, x139, x140, x141, x142, x143, x144, x145, x146, x147, x148, x149, x150, x151, x152, x153, x154, x155, x156, x157, x158, x159, x160, x161, x162, x163, x164, x165, x166, x167, x168, x169, x170, x171, x172, x173, x174, x175, x176, x177, x178, x179, x180, x181, x182, x183, x184, x185, x186, x187, x188, x189, x190, x191, x192, x193, x194, x195, x196, x197, x198, x199, x200, x201, x202, x203, x204, x205, x206, x207, x208, x209, x210, x211, x212, x213, x214, x215, x216, x217, x218, x219, x220, x221, x222, x223, x224, x225, x226, x227, x228, x229, x230, x231, x232, x233, x234, x235, x236, x237, x238, x239, x240, x241, x242, x243, x244, x245, x246, x247, x248, x249, x250, x251, x252, x253, x254, x255], []⟩ wr := by
  conv => arg 2; whnf
  have hki : (k : Int) < (n : Int) := by omega
  have hk30i : (k : Int) < 30 := by omega
  have hbb := Rd.bound hbs0
  have h60i : ¬ (60 : Int) < (bs.length : Int) := by omega
  obtain ⟨hlf, hln, hl64, hw64⟩ := SS.dfacts
  have hB := SS.low
  have RAe : Rw (wr.alloc (.cells #[Value.int .i64 K, .int .i64 N, .slice a' bs.length c'', .bool long] 59)) wr.heap.size [Value.int .i64 K, .int .i64 N, .slice a' bs.length c'', .bool long] 59 := rw_new wr [Value.int .i64 K, .int .i64 N, .slice a' bs.length c'', .bool long] _ rfl
  have hob := oneB' wr (.cells #[Value.int .i64 K, .int .i64 N, .slice a' bs.length c'', .bool long] 59)
  have Pe := P.below hob
  have SSe := SS.addX hob wr.heap.size (Nat.le_refl _) RAe.lt
  have Be := bel' hB hob hB.size
  have hjw : w.heap.size ≤ wr.heap.size := hB.size
  obtain ⟨we, hwe⟩ : ∃ we, wr.alloc (.cells #[Value.int .i64 K, .int .i64 N, .slice a' bs.length c'', .bool long] 59) = we := ⟨_, rfl⟩
  rw [hwe] at RAe Pe SSe Be
  have m0 := RAe.cell 0 _ rfl
  have m1 := RAe.cell 1 _ rfl
  have m2 := RAe.cell 2 _ rfl
  have m3 := RAe.cell 3 _ rfl
  have HL64 := Go.Lib.hid hl64; have HW64 := Go.Lib.hid hw64
  have hgh := P.gh
  have hwt := HB.wt
  clear hl64 hw64 hob P SS hB
  obtain ⟨D', S', er, hM⟩ : ∃ D' S' er, synM D S = (D', S', er) := ⟨_, _, _, rfl⟩
  have hbn := HB.syn
  rw [hM] at hbn
  have HBN : Hid (Bd N0 (k + 1) D' S') := Go.Lib.hid hbn
  have hll := HB.ll; have hus := HB.us; have hsn := HB.n
  have hra := fun v hd hs => rsyn_any v (dvV D a1 c1 a2 c2) (svV S aL cL) D S hd hs hlf.1 hlf.2 hln (by omega) (fun x hx => (HW64.out x hx).2) (by omega)
  rw [hM] at hra
  unfold SynR dvV rdV svV sgL at hra
  simp only at hra
  have HRA := Go.Lib.hid hra
  have hqa := qh_sync _ w we q p D S SSe (by omega)
  rw [hM] at hqa
  have HQA := Go.Lib.hid hqa
  clear hbn hM hra hqa
  go_wp2_with fail
  go_at_call 13
  refine HQA.out.mono ?_
  rintro e w6 ⟨rfl, SS6, K6⟩
  replace SS6 : SdH (Hb g h (dvV D a1 c1 a2 c2) (svV S aL cL) (fun k => k = wr.heap.size)) w w6 q p D' S' := SS6
  have P6 := Pe.keep K6 (fun k hk hn => hn hk)
  have RA6 := RAe.keep K6 (fun hn => hn (.inr (.inr (.inl rfl))))
  have hj6 := RA6.lt
  clear Pe SSe RAe Be m0 m1 m2 m3 K6
  have u0 := (show Rw _ g [Value.slice a1 D.l.length c1, .slice a2 D.waits.length c2, .int .i64 D.left, .bool D.down] 50 from P6.rg).cell 0 _ rfl
  have u1 := (show Rw _ g [Value.slice a1 D.l.length c1, .slice a2 D.waits.length c2, .int .i64 D.left, .bool D.down] 50 from P6.rg).cell 1 _ rfl
  have u2 := (show Rw _ g [Value.slice a1 D.l.length c1, .slice a2 D.waits.length c2, .int .i64 D.left, .bool D.down] 50 from P6.rg).cell 2 _ rfl
  have u3 := (show Rw _ g [Value.slice a1 D.l.length c1, .slice a2 D.waits.length c2, .int .i64 D.left, .bool D.down] 50 from P6.rg).cell 3 _ rfl
  have v0 := (show Rw _ h [Value.int .i64 (S.frm : Int), .int .i64 (S.n : Int), .int .u64 (S.epoch : Int), .slice aL S.l.length cL, .int .i64 (S.used : Int), .int .i64 (S.sure : Int), .int .i64 (S.gone : Int), .int .i64 S.e] 55 from P6.rh).cell 0 _ rfl
  have v1 := (show Rw _ h [Value.int .i64 (S.frm : Int), .int .i64 (S.n : Int), .int .u64 (S.epoch : Int), .slice aL S.l.length cL, .int .i64 (S.used : Int), .int .i64 (S.sure : Int), .int .i64 (S.gone : Int), .int .i64 S.e] 55 from P6.rh).cell 1 _ rfl
  have v2 := (show Rw _ h [Value.int .i64 (S.frm : Int), .int .i64 (S.n : Int), .int .u64 (S.epoch : Int), .slice aL S.l.length cL, .int .i64 (S.used : Int), .int .i64 (S.sure : Int), .int .i64 (S.gone : Int), .int .i64 S.e] 55 from P6.rh).cell 2 _ rfl
  have v3 := (show Rw _ h [Value.int .i64 (S.frm : Int), .int .i64 (S.n : Int), .int .u64 (S.epoch : Int), .slice aL S.l.length cL, .int .i64 (S.used : Int), .int .i64 (S.sure : Int), .int .i64 (S.gone : Int), .int .i64 S.e] 55 from P6.rh).cell 3 _ rfl
  have v4 := (show Rw _ h [Value.int .i64 (S.frm : Int), .int .i64 (S.n : Int), .int .u64 (S.epoch : Int), .slice aL S.l.length cL, .int .i64 (S.used : Int), .int .i64 (S.sure : Int), .int .i64 (S.gone : Int), .int .i64 S.e] 55 from P6.rh).cell 4 _ rfl
  have v5 := (show Rw _ h [Value.int .i64 (S.frm : Int), .int .i64 (S.n : Int), .int .u64 (S.epoch : Int), .slice aL S.l.length cL, .int .i64 (S.used : Int), .int .i64 (S.sure : Int), .int .i64 (S.gone : Int), .int .i64 S.e] 55 from P6.rh).cell 5 _ rfl
  have v6 := (show Rw _ h [Value.int .i64 (S.frm : Int), .int .i64 (S.n : Int), .int .u64 (S.epoch : Int), .slice aL S.l.length cL, .int .i64 (S.used : Int), .int .i64 (S.sure : Int), .int .i64 (S.gone : Int), .int .i64 S.e] 55 from P6.rh).cell 6 _ rfl
  have v7 := (show Rw _ h [Value.int .i64 (S.frm : Int), .int .i64 (S.n : Int), .int .u64 (S.epoch : Int), .slice aL S.l.length cL, .int .i64 (S.used : Int), .int .i64 (S.sure : Int), .int .i64 (S.gone : Int), .int .i64 S.e] 55 from P6.rh).cell 7 _ rfl
  go_wp2_with (first
    | (go_at_call 26; refine (HRA.out _ P6.rd P6.rs).mono ?_; rintro e w9 ⟨v9, s9, rfl, hv9, hs9, hb9, hl9, hls9⟩; have hv := hv9; have hs := hs9; obtain ⟨e1, g1, e2, g2, rfl, _, _⟩ := hv; obtain ⟨aM, cM, rfl, _⟩ := hs; have P9 := P6.below hb9; clear u0 u1 u2 u3 v0 v1 v2 v3 v4 v5 v6 v7)
    | (refine NB.wpList_store_agg_any rfl 50 (.tmp 10) (.tmp 159) rfl rfl g 0 #[Value.slice e1 D'.l.length g1, .slice e2 D'.waits.length g2, .int .i64 D'.left, .bool D'.down] rfl rfl 50 #[Value.slice a1 D.l.length c1, .slice a2 D.waits.length c2, .int .i64 D.left, .bool D.down] P9.rg (by kernel_rfl) (Nat.le_refl _) (by intro v hv; simp only [List.mem_cons, List.not_mem_nil, or_false] at hv; rcases hv with rfl | rfl | rfl | rfl <;> rfl) _ rfl ?_; intro w10 hg10 hc10 hs10; have K10 := (NB.Kp.refl (fun k => k = g ∨ k = h) w9).grown hg10 (fun k e => .inl (.inl (by cases e; rfl))); have rg10 : Rw w10 g (dvL D' e1 g1 e2 g2) 50 := hc10; have rh10 := P9.rh.keep ((NB.Kp.refl (fun k => k = g) w9).grown hg10 (fun k e => .inl (by cases e; rfl))) (fun e => hgh e.symm); clear hg10 hc10 hs10)
    | (refine NB.wpList_store_agg_any rfl 55 (.tmp 14) (.tmp 160) rfl rfl h 0 #[Value.int .i64 (S'.frm : Int), .int .i64 (S'.n : Int), .int .u64 (S'.epoch : Int), .slice aM S'.l.length cM, .int .i64 (S'.used : Int), .int .i64 (S'.sure : Int), .int .i64 (S'.gone : Int), .int .i64 S'.e] rfl rfl 55 #[Value.int .i64 (S.frm : Int), .int .i64 (S.n : Int), .int .u64 (S.epoch : Int), .slice aL S.l.length cL, .int .i64 (S.used : Int), .int .i64 (S.sure : Int), .int .i64 (S.gone : Int), .int .i64 S.e] rh10 (by kernel_rfl) (Nat.le_refl _) (by intro v hv; simp only [List.mem_cons, List.not_mem_nil, or_false] at hv; rcases hv with rfl | rfl | rfl | rfl | rfl | rfl | rfl | rfl <;> rfl) _ rfl ?_; intro w11 hg11 hc11 hs11; have K11 := K10.grown hg11 (fun k e => .inl (.inr (by cases e; rfl))); have rg11 := rg10.keep ((NB.Kp.refl (fun k => k = h) w10).grown hg11 (fun k e => .inl (by cases e; rfl))) (fun e => hgh e); have rh11 : Rw w11 h (sgL S' aM cM) 55 := hc11; clear hg11 hc11 hs11; have P11 := P6.put hb9 hv9 hs9 hl9 hls9 rfl rfl K11 rg11 rh11; have SS11 := P6.sdh SS6 hb9 K11 hl9 hls9 P11 (fun k hk => by subst hk; exact ⟨hjw, hj6⟩); clear K10 K11 rg10 rh10 rg11 rh11 P6 SS6 RA6 P9 hv9 hs9 hl9 hls9 hb9; have u0 := (show Rw _ g [Value.slice e1 D'.l.length g1, .slice e2 D'.waits.length g2, .int .i64 D'.left, .bool D'.down] 50 from P11.rg).cell 0 _ rfl; have u1 := (show Rw _ g [Value.slice e1 D'.l.length g1, .slice e2 D'.waits.length g2, .int .i64 D'.left, .bool D'.down] 50 from P11.rg).cell 1 _ rfl; have u2 := (show Rw _ g [Value.slice e1 D'.l.length g1, .slice e2 D'.waits.length g2, .int .i64 D'.left, .bool D'.down] 50 from P11.rg).cell 2 _ rfl; have u3 := (show Rw _ g [Value.slice e1 D'.l.length g1, .slice e2 D'.waits.length g2, .int .i64 D'.left, .bool D'.down] 50 from P11.rg).cell 3 _ rfl)
    | (go_at_call 33; refine (SS11.ddh.alike P11.rd (by have := HBN.out.wt; omega)).mono ?_; rintro e wU ⟨rfl, hbU⟩; have PU := P11.below hbU; have SU := SS11.below hbU; clear u0 u1 u2 u3; have v0 := (show Rw _ h [Value.int .i64 (S'.frm : Int), .int .i64 (S'.n : Int), .int .u64 (S'.epoch : Int), .slice aM S'.l.length cM, .int .i64 (S'.used : Int), .int .i64 (S'.sure : Int), .int .i64 (S'.gone : Int), .int .i64 S'.e] 55 from PU.rh).cell 0 _ rfl; have v1 := (show Rw _ h [Value.int .i64 (S'.frm : Int), .int .i64 (S'.n : Int), .int .u64 (S'.epoch : Int), .slice aM S'.l.length cM, .int .i64 (S'.used : Int), .int .i64 (S'.sure : Int), .int .i64 (S'.gone : Int), .int .i64 S'.e] 55 from PU.rh).cell 1 _ rfl; have v2 := (show Rw _ h [Value.int .i64 (S'.frm : Int), .int .i64 (S'.n : Int), .int .u64 (S'.epoch : Int), .slice aM S'.l.length cM, .int .i64 (S'.used : Int), .int .i64 (S'.sure : Int), .int .i64 (S'.gone : Int), .int .i64 S'.e] 55 from PU.rh).cell 2 _ rfl; have v3 := (show Rw _ h [Value.int .i64 (S'.frm : Int), .int .i64 (S'.n : Int), .int .u64 (S'.epoch : Int), .slice aM S'.l.length cM, .int .i64 (S'.used : Int), .int .i64 (S'.sure : Int), .int .i64 (S'.gone : Int), .int .i64 S'.e] 55 from PU.rh).cell 3 _ rfl; have v4 := (show Rw _ h [Value.int .i64 (S'.frm : Int), .int .i64 (S'.n : Int), .int .u64 (S'.epoch : Int), .slice aM S'.l.length cM, .int .i64 (S'.used : Int), .int .i64 (S'.sure : Int), .int .i64 (S'.gone : Int), .int .i64 S'.e] 55 from PU.rh).cell 4 _ rfl; have v5 := (show Rw _ h [Value.int .i64 (S'.frm : Int), .int .i64 (S'.n : Int), .int .u64 (S'.epoch : Int), .slice aM S'.l.length cM, .int .i64 (S'.used : Int), .int .i64 (S'.sure : Int), .int .i64 (S'.gone : Int), .int .i64 S'.e] 55 from PU.rh).cell 5 _ rfl; have v6 := (show Rw _ h [Value.int .i64 (S'.frm : Int), .int .i64 (S'.n : Int), .int .u64 (S'.epoch : Int), .slice aM S'.l.length cM, .int .i64 (S'.used : Int), .int .i64 (S'.sure : Int), .int .i64 (S'.gone : Int), .int .i64 S'.e] 55 from PU.rh).cell 6 _ rfl; have v7 := (show Rw _ h [Value.int .i64 (S'.frm : Int), .int .i64 (S'.n : Int), .int .u64 (S'.epoch : Int), .slice aM S'.l.length cM, .int .i64 (S'.used : Int), .int .i64 (S'.sure : Int), .int .i64 (S'.gone : Int), .int .i64 S'.e] 55 from PU.rh).cell 7 _ rfl)
    | (go_at_call 34; refine (has_any _ _ _ q p _ _ _ SU PU.rs (by have := HBN.out.ll; have := HBN.out.us; have := HBN.out.n; omega) (fun b hb => by have := HBN.out.bl b hb; omega) (by have := HBN.out.n; omega) (by have := HBN.out.us; have := HBN.out.n; omega)).mono ?_; rintro e wV ⟨rfl, hbV⟩; have PV := PU.below hbV; have SW := (SU.below hbV).dropX))
  exact HEND.out _ _ _ _ _ _ _ _ _ _ _ _ _ _ _ _ _ _ _ _ _ _ _ _ _ _ _ _ _ _ _ _ _ _ _ _ _ _ _ _ _ _ _ _ _ _ _ _ _ _ _ _ _ _ _ _ _ _ _ _ _ _ _ _ _ _ _ _ _ _ _ _ _ _ _ _ _ _ _ _ _ _ _ _ _ _ _ _ _ _ _ _ _ _ _ _ _ _ _ _ _ _ _ _ _ _ _ _ _ _ _ _ _ _ _ _ _ _ _ _ _ _ _ _ _ _ _ _ _ _ _ _ _ _ _ _ _ _ _ _ _ _ _ _ _ _ _ _ _ _ _ _ _ _ _ _ _ _ _ _ _ _ _ _ _ _ _ _ _ _ _ _ _ _ _ _ _ _ _ _ _ _ _ _ _ _ _ _ _ _ _ _ _ _ _ _ _ q _ _ _ _ _ _ _ _ _ PV SW HBN.out
end Go.Proofs.Ytmgkaoenjnnlmaa
namespace Go.Proofs.Ytmgkaoenjnnlmaa
open Go.RowKit
open Go.NB.Crc
open Go.NB (Rd Dk Kp Stp Off Dis val I64)

set_option maxRecDepth 100000 in
set_option maxHeartbeats 32000000 in
theorem spl_C8 (w wr : World) (p g h N0 n c0 b o : Nat) (frm : Int) (hN1 : 1 ≤ N0) (hN24 : N0 ≤ 24) (hf64 : I64 frm) (hbd : n ≤ 9223372036854775807 ∧ c0 ≤ 9223372036854775807) (hnc : n ≤ c0)
    (k q : Nat) (D : Dk) (S : Sg) (a1 : Option Addr) (c1 : Nat) (a2 : Option Addr) (c2 : Nat) (aL : Option Addr) (cL : Nat) (hlt : k < n) (hk30 : k < 30) (P : Ps w wr g h D S a1 c1 a2 c2 aL cL) (SS : SdH (Hb g h (dvV D a1 c1 a2 c2) (svV S aL cL) (fun _ => False)) w wr q p D S) (HB : Bd N0 k D S)
    (K N : Int) (long : Bool) (a' : Option Addr) (c'' : Nat) (bs : List UInt8) (wN : I64 N) (q0 : wr.cell? ⟨b, o + k * 4, none⟩ = some (.int .i64 K)) (q1 : wr.cell? ⟨b, o + k * 4 + 1, none⟩ = some (.int .i64 N)) (q2 : wr.cell? ⟨b, o + k * 4 + 2, none⟩ = some (.slice a' bs.length c'')) (q3 : wr.cell? ⟨b, o + k * 4 + 3, none⟩ = some (.bool long))
    (hbs0 : NB.RdB w a' bs.length c'' bs) (h60 : ¬ 60 < bs.length) (hkv : bits .and .i64 K 15 = 8)
    (y3 y4 y5 y7 y9 y11 y22 y23 y24 y25 y26 y27 y28 y29 y30 y31 y32 y33 y34 y35 y36 y37 y38 y39 y40 y41 y42 y43 y44 y45 y46 y47 y48 y49 y50 y51 y52 y53 y54 y55 y56 y57 y58 y59 y60 y61 y62 y63 y64 y65 y66 : Value) (x6 x13 x15 x17 x18 x19 x20 x21 x67 x68 x69 x70 x71 x72 x73 x74 x75 x76 x77 x78 x79 x80 x81 x82 x83 x84 x85 x86 x87 x88 x89 x90 x91 x92 x93 x94 x95 x96 x97 x98 x99 x100 x101 x102 x103 x104 x105 x106 x107 x108 x109 x110 x111 x112 x113 x114 x115 x116 x117 x118 x119 x120 x121 x122 x123 x124 x125 x126 x127 x128 x129 x130 x131 x132 x133 x134 x135 x136 x137 x138 x139 x140 x141 x142 x143 x144 x145 x146 x147 x148 x149 x150 x151 x152 x153 x154 x155 x156 x157 x158 x159 x160 x161 x162 x163 x164 x165 x166 x167 x168 x169 x170 x171 x172 x173 x174 x175 x176 x177 x178 x179 x180 x181 x182 x183 x184 x185 x186 x187 x188 x189 x190 x191 x192 x193 x194 x195 x196 x197 x198 x199 x200 x201 x202 x203 x204 x205 x206 x207 x208 x209 x210 x211 x212 x213 x214 x215 x216 x217 x218 x219 x220 x221 x222 x223 x224 x225 x226 x227 x228 x229 x230 x231 x232 x233 x234 x235 x236 x237 x238 x239 x240 x241 x242 x243 x244 x245 x246 x247 x248 x249 x250 x251 x252 x253 x254 x255 : Value) (KK : Act → World → Prop) (QQ : Exit → Act → World → Prop)
    (HEND : Hid (∀ (z6 z13 z15 z17 z18 z19 z20 z21 z67 z68 z69 z70 z71 z72 z73 z74 z75 z76 z77 z78 z79 z80 z81 z82 z83 z84 z85 z86 z87 z88 z89 z90 z91 z92 z93 z94 z95 z96 z97 z98 z99 z100 z101 z102 z103 z104 z105 z106 z107 z108 z109 z110 z111 z112 z113 z114 z115 z116 z117 z118 z119 z120 z121 z122 z123 z124 z125 z126 z127 z128 z129 z130 z131 z132 z133 z134 z135 z136 z137 z138 z139 z140 z141 z142 z143 z144 z145 z146 z147 z148 z149 z150 z151 z152 z153 z154 z155 z156 z157 z158 z159 z160 z161 z162 z163 z164 z165 z166 z167 z168 z169 z170 z171 z172 z173 z174 z175 z176 z177 z178 z179 z180 z181 z182 z183 z184 z185 z186 z187 z188 z189 z190 z191 z192 z193 z194 z195 z196 z197 z198 z199 z200 z201 z202 z203 z204 z205 z206 z207 z208 z209 z210 z211 z212 z213 z214 z215 z216 z217 z218 z219 z220 z221 z222 z223 z224 z225 z226 z227 z228 z229 z230 z231 z232 z233 z234 z235 z236 z237 z238 z239 z240 z241 z242 z243 z244 z245 z246 z247 z248 z249 z250 z251 z252 z253 z254 z255 : Value) (q : Nat) (D : Dk) (S : Sg) (a1 : Option Addr) (c1 : Nat) (a2 : Option Addr) (c2 : Nat) (aL : Option Addr) (cL : Nat) (v : World), Ps w v g h D S a1 c1 a2 c2 aL cL → SdH (Hb g h (dvV D a1 c1 a2 c2) (svV S aL cL) (fun _ => False)) w v q p D S → Bd N0 (k + 1) D S → KK ⟨#[.int .i64 (N0 : Int), .int .i64 frm, .slice (some ⟨b, o, none⟩) n c0, y3, y4, y5, z6, y7, .pointer (some ⟨p, 0, none⟩), y9, .pointer (some ⟨g, 0, none⟩), y11, .pointer (some ⟨q, 0, none⟩), z13, .pointer (some ⟨h, 0, none⟩), z15, .int .i64 ((k : Int) + 1), z17, z18, z19, z20, z21, y22, y23, y24, y25, y26, y27, y28, y29, y30, y31, y32, y33, y34, y35, y36, y37, y38, y39, y40, y41, y42, y43, y44, y45, y46, y47, y48, y49, y50, y51, y52, y53, y54, y55, y56, y57, y58, y59, y60, y61, y62, y63, y64, y65, y66, z67, z68, z69, z70, z71, z72, z73, z74, z75, z76, z77, z78, z79, z80, z81, z82, z83, z84, z85, z86, z87, z88, z89, z90, z91, z92, z93, z94, z95, z96, z97, z98, z99, z100, z101, z102, z103, z104, z105, z106, z107, z108, z109, z110, z111, z112, z113, z114, z115, z116, z117, z118, z119, z120, z121, z122, z123, z124, z125, z126, z127, z128, z129, z130, z131, z132, z133, z134, z135, z136, z137, z138, z139, z140, z141, z142, z143, z144, z145, z146, z147, z148, z149, z150, z151, z152, z153, z154, z155, z156, z157, z158, z159, z160, z161, z162, z163, z164, z165, z166, z167, z168, z169, z170, z171, z172, z173, z174, z175, z176, z177, z178, z179, z180, z181, z182, z183, z184, z185, z186, z187, z188, z189, z190, z191, z192, z193, z194, z195, z196, z197, z198, z199, z200, z201, z202, z203, z204, z205, z206, z207, z208, z209, z210, z211, z212, z213, z214, z215, z216, z217, z218, z219, z220, z221, z222, z223, z224, z225, z226, z227, z228, z229, z230, z231, z232, z233, z234, z235, z236, z237, z238, z239, z240, z241, z242, z243, z244, z245, z246, z247, z248, z249, z250, z251, z252, z253, z254, z255], []⟩ v)) :
    Code.wp Try.prog splBody (Exit.then KK QQ) ⟨#[.int .i64 (N0 : Int), .int .i64 frm, .slice (some ⟨b, o, none⟩) n c0, y3, y4, y5, x6, y7, .pointer (some ⟨p, 0, none⟩), y9, .pointer (some ⟨g, 0, none⟩), y11, .pointer (some ⟨q, 0, none⟩), x13, .pointer (some ⟨h, 0, none⟩), x15, .int .i64 ((k : Int)), x17, x18, x19, x20, x21, y22, y23, y24, y25, y26, y27, y28, y29, y30, y31, y32, y33, y34, y35, y36, y37, y38, y39, y40, y41, y42, y43, y44, y45, y46, y47, y48, y49, y50, y51, y52, y53, y54, y55, y56, y57, y58, y59, y60, y61, y62, y63, y64, y65, y66, x67, x68, x69, x70, x71, x72, x73, x74, x75, x76, x77, x78, x79, x80, x81, x82, x83, x84, x85, x86, x87, x88, x89, x90, x91, x92, x93, x94, x95, x96, x97, x98, x99, x100, x101, x102, x103, x104, x105, x106, x107, x108, x109, x110, x111, x112, x113, x114, x115, x116, x117, x118, x119, x120, x121, x122, x123, x124, x125, x126, x127, x128, x129, x130, x131, x132, x133, x134, x135, x136, x137, x138, x139, x140, x141, x142, x143, x144, x145, x146, x147, x148, x149, x150, x151, x152, x153, x154, x155, x156, x157, x158, x159, x160, x161, x162, x163, x164, x165, x166, x167, x168, x169, x170, x171, x172, x173, x174, x175, x176, x177, x178, x179, x180, x181, x182, x183, x184, x185, x186, x187, x188, x189, x190, x191, x192, x193, x194, x195, x196, x197, x198, x199, x200, x201, x202, x203, x204, x205, x206, x207, x208, x209, x210, x211, x212, x213, x214, x215, x216, x217, x218, x219, x220, x221, x222, x223, x224, x225, x226, x227, x228, x229, x230, x231, x232, x233, x234, x235, x236, x237, x238, x239, x240, x241, x242, x243, x244, x245, x246, x247, x248, x249, x250, x251, x252, x253, x254, x255], []⟩ wr := by
  conv => arg 2; whnf
  have hki : (k : Int) < (n : Int) := by omega
  have hk30i : (k : Int) < 30 := by omega
  have hbb := Rd.bound hbs0
  have h60i : ¬ (60 : Int) < (bs.length : Int) := by omega
  obtain ⟨hlf, hln, hl64, hw64⟩ := SS.dfacts
  have hB := SS.low
  have RAe : Rw (wr.alloc (.cells #[Value.int .i64 K, .int .i64 N, .slice a' bs.length c'', .bool long] 59)) wr.heap.size [Value.int .i64 K, .int .i64 N, .slice a' bs.length c'', .bool long] 59 := rw_new wr [Value.int .i64 K, .int .i64 N, .slice a' bs.length c'', .bool long] _ rfl
  have hob := oneB' wr (.cells #[Value.int .i64 K, .int .i64 N, .slice a' bs.length c'', .bool long] 59)
  have Pe := P.below hob
  have SSe := SS.addX hob wr.heap.size (Nat.le_refl _) RAe.lt
  have Be := bel' hB hob hB.size
  have hjw : w.heap.size ≤ wr.heap.size := hB.size
  obtain ⟨we, hwe⟩ : ∃ we, wr.alloc (.cells #[Value.int .i64 K, .int .i64 N, .slice a' bs.length c'', .bool long] 59) = we := ⟨_, rfl⟩
  rw [hwe] at RAe Pe SSe Be
  have m0 := RAe.cell 0 _ rfl
  have m1 := RAe.cell 1 _ rfl
  have m2 := RAe.cell 2 _ rfl
  have m3 := RAe.cell 3 _ rfl
  have HL64 := Go.Lib.hid hl64; have HW64 := Go.Lib.hid hw64
  have hgh := P.gh
  have hwt := HB.wt
  clear hl64 hw64 hob P SS hB
  obtain ⟨S', hM⟩ : ∃ S', trmM S N = S' := ⟨_, rfl⟩
  have hbn := HB.trm N
  rw [hM] at hbn
  have HBN : Hid (Bd N0 (k + 1) D S') := Go.Lib.hid hbn
  have hra := fun v hs => rtrm_any v (svV S aL cL) S N hs
  rw [hM] at hra
  unfold TrmR svV sgL at hra
  have HRA := Go.Lib.hid hra
  have hqa := qh_trim _ w we q p D S N SSe
  rw [hM] at hqa
  have HQA := Go.Lib.hid hqa
  clear hbn hM hra hqa
  go_wp2_with fail
  go_at_call 21
  refine HQA.out.mono ?_
  rintro e w6 ⟨rfl, SS6, K6⟩
  replace SS6 : SdH (Hb g h (dvV D a1 c1 a2 c2) (svV S aL cL) (fun k => k = wr.heap.size)) w w6 q p D S' := SS6
  have P6 := Pe.keep K6 (fun k hk hn => hn hk)
  have RA6 := RAe.keep K6 (fun hn => hn (.inr (.inr (.inl rfl))))
  have hj6 := RA6.lt
  clear Pe SSe RAe Be m0 m1 m2 m3 K6
  have m1 := RA6.cell 1 _ rfl
  have v0 := (show Rw _ h [Value.int .i64 (S.frm : Int), .int .i64 (S.n : Int), .int .u64 (S.epoch : Int), .slice aL S.l.length cL, .int .i64 (S.used : Int), .int .i64 (S.sure : Int), .int .i64 (S.gone : Int), .int .i64 S.e] 55 from P6.rh).cell 0 _ rfl
  have v1 := (show Rw _ h [Value.int .i64 (S.frm : Int), .int .i64 (S.n : Int), .int .u64 (S.epoch : Int), .slice aL S.l.length cL, .int .i64 (S.used : Int), .int .i64 (S.sure : Int), .int .i64 (S.gone : Int), .int .i64 S.e] 55 from P6.rh).cell 1 _ rfl
  have v2 := (show Rw _ h [Value.int .i64 (S.frm : Int), .int .i64 (S.n : Int), .int .u64 (S.epoch : Int), .slice aL S.l.length cL, .int .i64 (S.used : Int), .int .i64 (S.sure : Int), .int .i64 (S.gone : Int), .int .i64 S.e] 55 from P6.rh).cell 2 _ rfl
  have v3 := (show Rw _ h [Value.int .i64 (S.frm : Int), .int .i64 (S.n : Int), .int .u64 (S.epoch : Int), .slice aL S.l.length cL, .int .i64 (S.used : Int), .int .i64 (S.sure : Int), .int .i64 (S.gone : Int), .int .i64 S.e] 55 from P6.rh).cell 3 _ rfl
  have v4 := (show Rw _ h [Value.int .i64 (S.frm : Int), .int .i64 (S.n : Int), .int .u64 (S.epoch : Int), .slice aL S.l.length cL, .int .i64 (S.used : Int), .int .i64 (S.sure : Int), .int .i64 (S.gone : Int), .int .i64 S.e] 55 from P6.rh).cell 4 _ rfl
  have v5 := (show Rw _ h [Value.int .i64 (S.frm : Int), .int .i64 (S.n : Int), .int .u64 (S.epoch : Int), .slice aL S.l.length cL, .int .i64 (S.used : Int), .int .i64 (S.sure : Int), .int .i64 (S.gone : Int), .int .i64 S.e] 55 from P6.rh).cell 5 _ rfl
  have v6 := (show Rw _ h [Value.int .i64 (S.frm : Int), .int .i64 (S.n : Int), .int .u64 (S.epoch : Int), .slice aL S.l.length cL, .int .i64 (S.used : Int), .int .i64 (S.sure : Int), .int .i64 (S.gone : Int), .int .i64 S.e] 55 from P6.rh).cell 6 _ rfl
  have v7 := (show Rw _ h [Value.int .i64 (S.frm : Int), .int .i64 (S.n : Int), .int .u64 (S.epoch : Int), .slice aL S.l.length cL, .int .i64 (S.used : Int), .int .i64 (S.sure : Int), .int .i64 (S.gone : Int), .int .i64 S.e] 55 from P6.rh).cell 7 _ rfl
  go_wp2_with (first
    | (go_at_call 27; refine (HRA.out _ P6.rs).mono ?_; rintro e w9 ⟨s9, rfl, hs9, hb9, hls9⟩; have hs := hs9; obtain ⟨aM, cM, rfl, _⟩ := hs; have P9 := P6.below hb9; have rh10 := P9.rh; clear v0 v1 v2 v3 v4 v5 v6 v7)
    | (refine NB.wpList_store_agg_any rfl 55 (.tmp 14) (.tmp 171) rfl rfl h 0 #[Value.int .i64 (S'.frm : Int), .int .i64 (S'.n : Int), .int .u64 (S'.epoch : Int), .slice aM S'.l.length cM, .int .i64 (S'.used : Int), .int .i64 (S'.sure : Int), .int .i64 (S'.gone : Int), .int .i64 S'.e] rfl rfl 55 #[Value.int .i64 (S.frm : Int), .int .i64 (S.n : Int), .int .u64 (S.epoch : Int), .slice aL S.l.length cL, .int .i64 (S.used : Int), .int .i64 (S.sure : Int), .int .i64 (S.gone : Int), .int .i64 S.e] rh10 (by kernel_rfl) (Nat.le_refl _) (by intro v hv; simp only [List.mem_cons, List.not_mem_nil, or_false] at hv; rcases hv with rfl | rfl | rfl | rfl | rfl | rfl | rfl | rfl <;> rfl) _ rfl ?_; intro w11 hg11 hc11 hs11; have K11 := (NB.Kp.refl (fun k => k = g ∨ k = h) w9).grown hg11 (fun k e => .inl (.inr (by cases e; rfl))); have rg11 := P9.rg.keep ((NB.Kp.refl (fun k => k = h) w9).grown hg11 (fun k e => .inl (by cases e; rfl))) (fun e => hgh e); have rh11 : Rw w11 h (sgL S' aM cM) 55 := hc11; clear hg11 hc11 hs11; have P11 := P6.put hb9 (P6.rd.below hb9) hs9 (fun k hk => .inl hk) hls9 rfl rfl K11 rg11 rh11; have SS11 := P6.sdh SS6 hb9 K11 (fun k hk => .inl hk) hls9 P11 (fun k hk => by subst hk; exact ⟨hjw, hj6⟩); clear K11 rg11 rh10 rh11 P6 SS6 RA6 P9 hs9 hls9 hb9 m1; have v6 := (show Rw _ h [Value.int .i64 (S'.frm : Int), .int .i64 (S'.n : Int), .int .u64 (S'.epoch : Int), .slice aM S'.l.length cM, .int .i64 (S'.used : Int), .int .i64 (S'.sure : Int), .int .i64 (S'.gone : Int), .int .i64 S'.e] 55 from P11.rh).cell 6 _ rfl; have u0 := (show Rw _ g [Value.slice a1 D.l.length c1, .slice a2 D.waits.length c2, .int .i64 D.left, .bool D.down] 50 from P11.rg).cell 0 _ rfl; have u1 := (show Rw _ g [Value.slice a1 D.l.length c1, .slice a2 D.waits.length c2, .int .i64 D.left, .bool D.down] 50 from P11.rg).cell 1 _ rfl; have u2 := (show Rw _ g [Value.slice a1 D.l.length c1, .slice a2 D.waits.length c2, .int .i64 D.left, .bool D.down] 50 from P11.rg).cell 2 _ rfl; have u3 := (show Rw _ g [Value.slice a1 D.l.length c1, .slice a2 D.waits.length c2, .int .i64 D.left, .bool D.down] 50 from P11.rg).cell 3 _ rfl)
    | (go_at_call 33; refine (SS11.ddh.alike P11.rd (by have := HBN.out.wt; omega)).mono ?_; rintro e wU ⟨rfl, hbU⟩; have PU := P11.below hbU; have SU := SS11.below hbU; clear u0 u1 u2 u3; have v0 := (show Rw _ h [Value.int .i64 (S'.frm : Int), .int .i64 (S'.n : Int), .int .u64 (S'.epoch : Int), .slice aM S'.l.length cM, .int .i64 (S'.used : Int), .int .i64 (S'.sure : Int), .int .i64 (S'.gone : Int), .int .i64 S'.e] 55 from PU.rh).cell 0 _ rfl; have v1 := (show Rw _ h [Value.int .i64 (S'.frm : Int), .int .i64 (S'.n : Int), .int .u64 (S'.epoch : Int), .slice aM S'.l.length cM, .int .i64 (S'.used : Int), .int .i64 (S'.sure : Int), .int .i64 (S'.gone : Int), .int .i64 S'.e] 55 from PU.rh).cell 1 _ rfl; have v2 := (show Rw _ h [Value.int .i64 (S'.frm : Int), .int .i64 (S'.n : Int), .int .u64 (S'.epoch : Int), .slice aM S'.l.length cM, .int .i64 (S'.used : Int), .int .i64 (S'.sure : Int), .int .i64 (S'.gone : Int), .int .i64 S'.e] 55 from PU.rh).cell 2 _ rfl; have v3 := (show Rw _ h [Value.int .i64 (S'.frm : Int), .int .i64 (S'.n : Int), .int .u64 (S'.epoch : Int), .slice aM S'.l.length cM, .int .i64 (S'.used : Int), .int .i64 (S'.sure : Int), .int .i64 (S'.gone : Int), .int .i64 S'.e] 55 from PU.rh).cell 3 _ rfl; have v4 := (show Rw _ h [Value.int .i64 (S'.frm : Int), .int .i64 (S'.n : Int), .int .u64 (S'.epoch : Int), .slice aM S'.l.length cM, .int .i64 (S'.used : Int), .int .i64 (S'.sure : Int), .int .i64 (S'.gone : Int), .int .i64 S'.e] 55 from PU.rh).cell 4 _ rfl; have v5 := (show Rw _ h [Value.int .i64 (S'.frm : Int), .int .i64 (S'.n : Int), .int .u64 (S'.epoch : Int), .slice aM S'.l.length cM, .int .i64 (S'.used : Int), .int .i64 (S'.sure : Int), .int .i64 (S'.gone : Int), .int .i64 S'.e] 55 from PU.rh).cell 5 _ rfl; have v6 := (show Rw _ h [Value.int .i64 (S'.frm : Int), .int .i64 (S'.n : Int), .int .u64 (S'.epoch : Int), .slice aM S'.l.length cM, .int .i64 (S'.used : Int), .int .i64 (S'.sure : Int), .int .i64 (S'.gone : Int), .int .i64 S'.e] 55 from PU.rh).cell 6 _ rfl; have v7 := (show Rw _ h [Value.int .i64 (S'.frm : Int), .int .i64 (S'.n : Int), .int .u64 (S'.epoch : Int), .slice aM S'.l.length cM, .int .i64 (S'.used : Int), .int .i64 (S'.sure : Int), .int .i64 (S'.gone : Int), .int .i64 S'.e] 55 from PU.rh).cell 7 _ rfl)
    | (go_at_call 34; refine (has_any _ _ _ q p _ _ _ SU PU.rs (by have := HBN.out.ll; have := HBN.out.us; have := HBN.out.n; omega) (fun b hb => by have := HBN.out.bl b hb; omega) (by have := HBN.out.n; omega) (by have := HBN.out.us; have := HBN.out.n; omega)).mono ?_; rintro e wV ⟨rfl, hbV⟩; have PV := PU.below hbV; have SW := (SU.below hbV).dropX))
  exact HEND.out _ _ _ _ _ _ _ _ _ _ _ _ _ _ _ _ _ _ _ _ _ _ _ _ _ _ _ _ _ _ _ _ _ _ _ _ _ _ _ _ _ _ _ _ _ _ _ _ _ _ _ _ _ _ _ _ _ _ _ _ _ _ _ _ _ _ _ _ _ _ _ _ _ _ _ _ _ _ _ _ _ _ _ _ _ _ _ _ _ _ _ _ _ _ _ _ _ _ _ _ _ _ _ _ _ _ _ _ _ _ _ _ _ _ _ _ _ _ _ _ _ _ _ _ _ _ _ _ _ _ _ _ _ _ _ _ _ _ _ _ _ _ _ _ _ _ _ _ _ _ _ _ _ _ _ _ _ _ _ _ _ _ _ _ _ _ _ _ _ _ _ _ _ _ _ _ _ _ _ _ _ _ _ _ _ _ _ _ _ _ _ _ _ _ _ _ _ q _ _ _ _ _ _ _ _ _ PV SW HBN.out

set_option maxRecDepth 100000 in
set_option maxHeartbeats 32000000 in
theorem spl_D9 (w wr : World) (p g h N0 n c0 b o : Nat) (frm : Int) (hN1 : 1 ≤ N0) (hN24 : N0 ≤ 24) (hf64 : I64 frm) (hbd : n ≤ 9223372036854775807 ∧ c0 ≤ 9223372036854775807) (hnc : n ≤ c0)
    (k q : Nat) (D : Dk) (S : Sg) (a1 : Option Addr) (c1 : Nat) (a2 : Option Addr) (c2 : Nat) (aL : Option Addr) (cL : Nat) (hlt : k < n) (hk30 : k < 30) (P : Ps w wr g h D S a1 c1 a2 c2 aL cL) (SS : SdH (Hb g h (dvV D a1 c1 a2 c2) (svV S aL cL) (fun _ => False)) w wr q p D S) (HB : Bd N0 k D S)
    (K N : Int) (long : Bool) (a' : Option Addr) (c'' : Nat) (bs : List UInt8) (wN : I64 N) (q0 : wr.cell? ⟨b, o + k * 4, none⟩ = some (.int .i64 K)) (q1 : wr.cell? ⟨b, o + k * 4 + 1, none⟩ = some (.int .i64 N)) (q2 : wr.cell? ⟨b, o + k * 4 + 2, none⟩ = some (.slice a' bs.length c'')) (q3 : wr.cell? ⟨b, o + k * 4 + 3, none⟩ = some (.bool long))
    (hbs0 : NB.RdB w a' bs.length c'' bs) (h60 : ¬ 60 < bs.length) (hkv : bits .and .i64 K 15 = 9)
    (y3 y4 y5 y7 y9 y11 y22 y23 y24 y25 y26 y27 y28 y29 y30 y31 y32 y33 y34 y35 y36 y37 y38 y39 y40 y41 y42 y43 y44 y45 y46 y47 y48 y49 y50 y51 y52 y53 y54 y55 y56 y57 y58 y59 y60 y61 y62 y63 y64 y65 y66 : Value) (x6 x13 x15 x17 x18 x19 x20 x21 x67 x68 x69 x70 x71 x72 x73 x74 x75 x76 x77 x78 x79 x80 x81 x82 x83 x84 x85 x86 x87 x88 x89 x90 x91 x92 x93 x94 x95 x96 x97 x98 x99 x100 x101 x102 x103 x104 x105 x106 x107 x108 x109 x110 x111 x112 x113 x114 x115 x116 x117 x118 x119 x120 x121 x122 x123 x124 x125 x126 x127 x128 x129 x130 x131 x132 x133 x134 x135 x136 x137 x138 x139 x140 x141 x142 x143 x144 x145 x146 x147 x148 x149 x150 x151 x152 x153 x154 x155 x156 x157 x158 x159 x160 x161 x162 x163 x164 x165 x166 x167 x168 x169 x170 x171 x172 x173 x174 x175 x176 x177 x178 x179 x180 x181 x182 x183 x184 x185 x186 x187 x188 x189 x190 x191 x192 x193 x194 x195 x196 x197 x198 x199 x200 x201 x202 x203 x204 x205 x206 x207 x208 x209 x210 x211 x212 x213 x214 x215 x216 x217 x218 x219 x220 x221 x222 x223 x224 x225 x226 x227 x228 x229 x230 x231 x232 x233 x234 x235 x236 x237 x238 x239 x240 x241 x242 x243 x244 x245 x246 x247 x248 x249 x250 x251 x252 x253 x254 x255 : Value) (KK : Act → World → Prop) (QQ : Exit → Act → World → Prop)
    (HEND : Hid (∀ (z6 z13 z15 z17 z18 z19 z20 z21 z67 z68 z69 z70 z71 z72 z73 z74 z75 z76 z77 z78 z79 z80 z81 z82 z83 z84 z85 z86 z87 z88 z89 z90 z91 z92 z93 z94 z95 z96 z97 z98 z99 z100 z101 z102 z103 z104 z105 z106 z107 z108 z109 z110 z111 z112 z113 z114 z115 z116 z117 z118 z119 z120 z121 z122 z123 z124 z125 z126 z127 z128 z129 z130 z131 z132 z133 z134 z135 z136 z137 z138 z139 z140 z141 z142 z143 z144 z145 z146 z147 z148 z149 z150 z151 z152 z153 z154 z155 z156 z157 z158 z159 z160 z161 z162 z163 z164 z165 z166 z167 z168 z169 z170 z171 z172 z173 z174 z175 z176 z177 z178 z179 z180 z181 z182 z183 z184 z185 z186 z187 z188 z189 z190 z191 z192 z193 z194 z195 z196 z197 z198 z199 z200 z201 z202 z203 z204 z205 z206 z207 z208 z209 z210 z211 z212 z213 z214 z215 z216 z217 z218 z219 z220 z221 z222 z223 z224 z225 z226 z227 z228 z229 z230 z231 z232 z233 z234 z235 z236 z237 z238 z239 z240 z241 z242 z243 z244 z245 z246 z247 z248 z249 z250 z251 z252 z253 z254 z255 : Value) (q : Nat) (D : Dk) (S : Sg) (a1 : Option Addr) (c1 : Nat) (a2 : Option Addr) (c2 : Nat) (aL : Option Addr) (cL : Nat) (v : World), Ps w v g h D S a1 c1 a2 c2 aL cL → SdH (Hb g h (dvV D a1 c1 a2 c2) (svV S aL cL) (fun _ => False)) w v q p D S → Bd N0 (k + 1) D S → KK ⟨#[.int .i64 (N0 : Int), .int .i64 frm, .slice (some ⟨b, o, none⟩) n c0, y3, y4, y5, z6, y7, .pointer (some ⟨p, 0, none⟩), y9, .pointer (some ⟨g, 0, none⟩), y11, .pointer (some ⟨q, 0, none⟩), z13, .pointer (some ⟨h, 0, none⟩), z15, .int .i64 ((k : Int) + 1), z17, z18, z19, z20, z21, y22, y23, y24, y25, y26, y27, y28, y29, y30, y31, y32, y33, y34, y35, y36, y37, y38, y39, y40, y41, y42, y43, y44, y45, y46, y47, y48, y49, y50, y51, y52, y53, y54, y55, y56, y57, y58, y59, y60, y61, y62, y63, y64, y65, y66, z67, z68, z69, z70, z71, z72, z73, z74, z75, z76, z77, z78, z79, z80, z81, z82, z83, z84, z85, z86, z87, z88, z89, z90, z91, z92, z93, z94, z95, z96, z97, z98, z99, z100, z101, z102, z103, z104, z105, z106, z107, z108, z109, z110, z111, z112, z113, z114, z115, z116, z117, z118, z119, z120, z121, z122, z123, z124, z125, z126, z127, z128, z129, z130, z131, z132, z133, z134, z135, z136, z137, z138, z139, z140, z141, z142, z143, z144, z145, z146, z147, z148, z149, z150, z151, z152, z153, z154, z155, z156, z157, z158, z159, z160, z161, z162, z163, z164, z165, z166, z167, z168, z169, z170, z171, z172, z173, z174, z175, z176, z177, z178, z179, z180, z181, z182, z183, z184, z185, z186, z187, z188, z189, z190, z191, z192, z193, z194, z195, z196, z197, z198, z199, z200, z201, z202, z203, z204, z205, z206, z207, z208, z209, z210, z211, z212, z213, z214, z215, z216, z217, z218, z219, z220, z221, z222, z223, z224, z225, z226, z227, z228, z229, z230, z231, z232, z233, z234, z235, z236, z237, z238, z239, z240, z241, z242, z243, z244, z245, z246, z247, z248, z249, z250, z251, z252, z253, z254, z255], []⟩ v)) :
    Code.wp Try.prog splBody (Exit.then KK QQ) ⟨#[.int .i64 (N0 : Int), .int .i64 frm, .slice (some ⟨b, o, none⟩) n c0, y3, y4, y5, x6, y7, .pointer (some ⟨p, 0, none⟩), y9, .pointer (some ⟨g, 0, none⟩), y11, .pointer (some ⟨q, 0, none⟩), x13, .pointer (some ⟨h, 0, none⟩), x15, .int .i64 ((k : Int)), x17, x18, x19, x20, x21, y22, y23, y24, y25, y26, y27, y28, y29, y30, y31, y32, y33, y34, y35, y36, y37, y38, y39, y40, y41, y42, y43, y44, y45, y46, y47, y48, y49, y50, y51, y52, y53, y54, y55, y56, y57, y58, y59, y60, y61, y62, y63, y64, y65, y66, x67, x68, x69, x70, x71, x72, x73, x74, x75, x76, x77, x78, x79, x80, x81, x82, x83, x84, x85, x86, x87, x88, x89, x90, x91, x92, x93, x94, x95, x96, x97, x98, x99, x100, x101, x102, x103, x104, x105, x106, x107, x108, x109, x110, x111, x112, x113, x114, x115, x116, x117, x118, x119, x120, x121, x122, x123, x124, x125, x126, x127, x128, x129, x130, x131, x132, x133, x134, x135, x136, x137, x138, x139, x140, x141, x142, x143, x144, x145, x146, x147, x148, x149, x150, x151, x152, x153, x154, x155, x156, x157, x158, x159, x160, x161, x162, x163, x164, x165, x166, x167, x168, x169, x170, x171, x172, x173, x174, x175, x176, x177, x178, x179, x180, x181, x182, x183, x184, x185, x186, x187, x188, x189, x190, x191, x192, x193, x194, x195, x196, x197, x198, x199, x200, x201, x202, x203, x204, x205, x206, x207, x208, x209, x210, x211, x212, x213, x214, x215, x216, x217, x218, x219, x220, x221, x222, x223, x224, x225, x226, x227, x228, x229, x230, x231, x232, x233, x234, x235, x236, x237, x238, x239, x240, x241, x242, x243, x244, x245, x246, x247, x248, x249, x250, x251, x252, x253, x254, x255], []⟩ wr := by
  conv => arg 2; whnf
  have hki : (k : Int) < (n : Int) := by omega
  have hk30i : (k : Int) < 30 := by omega
  have hbb := Rd.bound hbs0
  have h60i : ¬ (60 : Int) < (bs.length : Int) := by omega
  obtain ⟨hlf, hln, hl64, hw64⟩ := SS.dfacts
  have hB := SS.low
  have RAe : Rw (wr.alloc (.cells #[Value.int .i64 K, .int .i64 N, .slice a' bs.length c'', .bool long] 59)) wr.heap.size [Value.int .i64 K, .int .i64 N, .slice a' bs.length c'', .bool long] 59 := rw_new wr [Value.int .i64 K, .int .i64 N, .slice a' bs.length c'', .bool long] _ rfl
  have hob := oneB' wr (.cells #[Value.int .i64 K, .int .i64 N, .slice a' bs.length c'', .bool long] 59)
  have Pe := P.below hob
  have SSe := SS.addX hob wr.heap.size (Nat.le_refl _) RAe.lt
  have Be := bel' hB hob hB.size
  have hjw : w.heap.size ≤ wr.heap.size := hB.size
  obtain ⟨we, hwe⟩ : ∃ we, wr.alloc (.cells #[Value.int .i64 K, .int .i64 N, .slice a' bs.length c'', .bool long] 59) = we := ⟨_, rfl⟩
  rw [hwe] at RAe Pe SSe Be
  have m0 := RAe.cell 0 _ rfl
  have m1 := RAe.cell 1 _ rfl
  have m2 := RAe.cell 2 _ rfl
  have m3 := RAe.cell 3 _ rfl
  have HL64 := Go.Lib.hid hl64; have HW64 := Go.Lib.hid hw64
  have hgh := P.gh
  have hwt := HB.wt
  clear hl64 hw64 hob P SS hB
  obtain ⟨x, hx15, hx⟩ := and_le N 15 (by omega)
  obtain ⟨D', hM⟩ : ∃ D', D.stop (x : Int) = D' := ⟨_, rfl⟩
  have hbn := HB.stop (x : Int)
  rw [hM] at hbn
  have HBN : Hid (Bd N0 (k + 1) D' S) := Go.Lib.hid hbn
  have hra := fun v hd => rstopR v (dvV D a1 c1 a2 c2) D (x : Int) hd
  rw [hM] at hra
  unfold GaveR dvV rdV at hra
  have HRA := Go.Lib.hid hra
  have hqa := qh_stop _ w we q p D S (x : Int) (by omega) SSe
  rw [hM] at hqa
  have HQA := Go.Lib.hid hqa
  have hx' : bits .and .i64 N 15 = (x : Int) := hx
  clear hbn hM hra hqa hx
  go_wp2_with fail
  go_at_call 19
  refine HQA.out.mono ?_
  rintro e w6 ⟨rfl, SS6, K6⟩
  replace SS6 : SdH (Hb g h (dvV D a1 c1 a2 c2) (svV S aL cL) (fun k => k = wr.heap.size)) w w6 q p D' S := SS6
  have P6 := Pe.keep K6 (fun k hk hn => hn hk)
  have RA6 := RAe.keep K6 (fun hn => hn (.inr (.inr (.inl rfl))))
  have hj6 := RA6.lt
  clear Pe SSe RAe Be m0 m1 m2 m3 K6
  have m1 := RA6.cell 1 _ rfl
  have u0 := (show Rw _ g [Value.slice a1 D.l.length c1, .slice a2 D.waits.length c2, .int .i64 D.left, .bool D.down] 50 from P6.rg).cell 0 _ rfl
  have u1 := (show Rw _ g [Value.slice a1 D.l.length c1, .slice a2 D.waits.length c2, .int .i64 D.left, .bool D.down] 50 from P6.rg).cell 1 _ rfl
  have u2 := (show Rw _ g [Value.slice a1 D.l.length c1, .slice a2 D.waits.length c2, .int .i64 D.left, .bool D.down] 50 from P6.rg).cell 2 _ rfl
  have u3 := (show Rw _ g [Value.slice a1 D.l.length c1, .slice a2 D.waits.length c2, .int .i64 D.left, .bool D.down] 50 from P6.rg).cell 3 _ rfl
  go_wp2_with (first
    | (go_at_call 28; refine (HRA.out _ P6.rd).mono ?_; rintro e w9 ⟨v9, rfl, hv9, hb9, hl9⟩; have hv := hv9; obtain ⟨e1, g1, e2, g2, rfl, _, _⟩ := hv; have P9 := P6.below hb9; clear u0 u1 u2 u3)
    | (refine NB.wpList_store_agg_any rfl 50 (.tmp 10) (.tmp 187) rfl rfl g 0 #[Value.slice e1 D'.l.length g1, .slice e2 D'.waits.length g2, .int .i64 D'.left, .bool D'.down] rfl rfl 50 #[Value.slice a1 D.l.length c1, .slice a2 D.waits.length c2, .int .i64 D.left, .bool D.down] P9.rg (by kernel_rfl) (Nat.le_refl _) (by intro v hv; simp only [List.mem_cons, List.not_mem_nil, or_false] at hv; rcases hv with rfl | rfl | rfl | rfl <;> rfl) _ rfl ?_; intro w10 hg10 hc10 hs10; have K10 := (NB.Kp.refl (fun k => k = g ∨ k = h) w9).grown hg10 (fun k e => .inl (.inl (by cases e; rfl))); have rg10 : Rw w10 g (dvL D' e1 g1 e2 g2) 50 := hc10; have rh10 := P9.rh.keep ((NB.Kp.refl (fun k => k = g) w9).grown hg10 (fun k e => .inl (by cases e; rfl))) (fun e => hgh e.symm); clear hg10 hc10 hs10; have P11 := P6.put hb9 hv9 (P6.rs.below hb9) hl9 (fun k hk => .inl hk) rfl rfl K10 rg10 rh10; have SS11 := P6.sdh SS6 hb9 K10 hl9 (fun k hk => .inl hk) P11 (fun k hk => by subst hk; exact ⟨hjw, hj6⟩); clear K10 rg10 rh10 P6 SS6 RA6 P9 hv9 hl9 hb9 m1; have u0 := (show Rw _ g [Value.slice e1 D'.l.length g1, .slice e2 D'.waits.length g2, .int .i64 D'.left, .bool D'.down] 50 from P11.rg).cell 0 _ rfl; have u1 := (show Rw _ g [Value.slice e1 D'.l.length g1, .slice e2 D'.waits.length g2, .int .i64 D'.left, .bool D'.down] 50 from P11.rg).cell 1 _ rfl; have u2 := (show Rw _ g [Value.slice e1 D'.l.length g1, .slice e2 D'.waits.length g2, .int .i64 D'.left, .bool D'.down] 50 from P11.rg).cell 2 _ rfl; have u3 := (show Rw _ g [Value.slice e1 D'.l.length g1, .slice e2 D'.waits.length g2, .int .i64 D'.left, .bool D'.down] 50 from P11.rg).cell 3 _ rfl)
    | (go_at_call 33; refine (SS11.ddh.alike P11.rd (by have := HBN.out.wt; omega)).mono ?_; rintro e wU ⟨rfl, hbU⟩; have PU := P11.below hbU; have SU := SS11.below hbU; clear u0 u1 u2 u3; have v0 := (show Rw _ h [Value.int .i64 (S.frm : Int), .int .i64 (S.n : Int), .int .u64 (S.epoch : Int), .slice aL S.l.length cL, .int .i64 (S.used : Int), .int .i64 (S.sure : Int), .int .i64 (S.gone : Int), .int .i64 S.e] 55 from PU.rh).cell 0 _ rfl; have v1 := (show Rw _ h [Value.int .i64 (S.frm : Int), .int .i64 (S.n : Int), .int .u64 (S.epoch : Int), .slice aL S.l.length cL, .int .i64 (S.used : Int), .int .i64 (S.sure : Int), .int .i64 (S.gone : Int), .int .i64 S.e] 55 from PU.rh).cell 1 _ rfl; have v2 := (show Rw _ h [Value.int .i64 (S.frm : Int), .int .i64 (S.n : Int), .int .u64 (S.epoch : Int), .slice aL S.l.length cL, .int .i64 (S.used : Int), .int .i64 (S.sure : Int), .int .i64 (S.gone : Int), .int .i64 S.e] 55 from PU.rh).cell 2 _ rfl; have v3 := (show Rw _ h [Value.int .i64 (S.frm : Int), .int .i64 (S.n : Int), .int .u64 (S.epoch : Int), .slice aL S.l.length cL, .int .i64 (S.used : Int), .int .i64 (S.sure : Int), .int .i64 (S.gone : Int), .int .i64 S.e] 55 from PU.rh).cell 3 _ rfl; have v4 := (show Rw _ h [Value.int .i64 (S.frm : Int), .int .i64 (S.n : Int), .int .u64 (S.epoch : Int), .slice aL S.l.length cL, .int .i64 (S.used : Int), .int .i64 (S.sure : Int), .int .i64 (S.gone : Int), .int .i64 S.e] 55 from PU.rh).cell 4 _ rfl; have v5 := (show Rw _ h [Value.int .i64 (S.frm : Int), .int .i64 (S.n : Int), .int .u64 (S.epoch : Int), .slice aL S.l.length cL, .int .i64 (S.used : Int), .int .i64 (S.sure : Int), .int .i64 (S.gone : Int), .int .i64 S.e] 55 from PU.rh).cell 5 _ rfl; have v6 := (show Rw _ h [Value.int .i64 (S.frm : Int), .int .i64 (S.n : Int), .int .u64 (S.epoch : Int), .slice aL S.l.length cL, .int .i64 (S.used : Int), .int .i64 (S.sure : Int), .int .i64 (S.gone : Int), .int .i64 S.e] 55 from PU.rh).cell 6 _ rfl; have v7 := (show Rw _ h [Value.int .i64 (S.frm : Int), .int .i64 (S.n : Int), .int .u64 (S.epoch : Int), .slice aL S.l.length cL, .int .i64 (S.used : Int), .int .i64 (S.sure : Int), .int .i64 (S.gone : Int), .int .i64 S.e] 55 from PU.rh).cell 7 _ rfl)
    | (go_at_call 34; refine (has_any _ _ _ q p _ _ _ SU PU.rs (by have := HBN.out.ll; have := HBN.out.us; have := HBN.out.n; omega) (fun b hb => by have := HBN.out.bl b hb; omega) (by have := HBN.out.n; omega) (by have := HBN.out.us; have := HBN.out.n; omega)).mono ?_; rintro e wV ⟨rfl, hbV⟩; have PV := PU.below hbV; have SW := (SU.below hbV).dropX))
  exact HEND.out _ _ _ _ _ _ _ _ _ _ _ _ _ _ _ _ _ _ _ _ _ _ _ _ _ _ _ _ _ _ _ _ _ _ _ _ _ _ _ _ _ _ _ _ _ _ _ _ _ _ _ _ _ _ _ _ _ _ _ _ _ _ _ _ _ _ _ _ _ _ _ _ _ _ _ _ _ _ _ _ _ _ _ _ _ _ _ _ _ _ _ _ _ _ _ _ _ _ _ _ _ _ _ _ _ _ _ _ _ _ _ _ _ _ _ _ _ _ _ _ _ _ _ _ _ _ _ _ _ _ _ _ _ _ _ _ _ _ _ _ _ _ _ _ _ _ _ _ _ _ _ _ _ _ _ _ _ _ _ _ _ _ _ _ _ _ _ _ _ _ _ _ _ _ _ _ _ _ _ _ _ _ _ _ _ _ _ _ _ _ _ _ _ _ _ _ _ q _ _ _ _ _ _ _ _ _ PV SW HBN.out
end Go.Proofs.Ytmgkaoenjnnlmaa
