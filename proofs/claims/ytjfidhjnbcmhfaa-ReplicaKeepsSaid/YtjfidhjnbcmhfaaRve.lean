/- The walk for the statement ReplicaKeeps. -/
import Derived.Test.YtjfidhjnbcmhfaaRkf
namespace Go.Proofs.Ytjfidhjnbcmhfaa
open Go.RowKit
open Go.NB.Crc
open Go.NB (Rd RdU Dk Kp Stp Off Dis val I64 Rw oneB dB rw_new B64 Ent dknown dat dhit)

theorem wraps_k8 (n : Int) (h0 : 0 ≤ n) (h1 : n < 2 ^ 8) : IntKind.u8.wrap n = n := by rw [IntKind.wrap_u8]; omega
theorem kand15 (y : UInt8) : bits .and .u8 (y.toNat : Int) 15 = ((y.toNat % 16 : Nat) : Int) := by
  have h : bits .and .u8 (y.toNat : Int) 15 = (y.toNat : Int) % 16 := bits_mask .u8 8 (by decide) wraps_k8 4 (by decide) _ (by omega) (by have := y.toNat_lt; omega)
  rw [h]; omega
theorem kand7 (y : UInt8) : bits .and .u8 (y.toNat : Int) 7 = ((y.toNat % 8 : Nat) : Int) := by
  have h : bits .and .u8 (y.toNat : Int) 7 = (y.toNat : Int) % 8 := bits_mask .u8 8 (by decide) wraps_k8 3 (by decide) _ (by omega) (by have := y.toNat_lt; omega)
  rw [h]; omega
set_option maxRecDepth 100000 in
set_option maxHeartbeats 32000000 in
theorem law_rkeeps (w : World) (a : Option Addr) (n c : Nat) (lb : List UInt8) (a1 : Option Addr) (n1 c1 : Nat) (bs : List (List UInt8)) (a2 : Option Addr) (n2 c2 : Nat) (sp : List UInt8) (a3 : Option Addr) (n3 c3 : Nat) (ps : List (List UInt8)) (h : NB.RdB w a n c lb) (h1 : NB.RdBB w a1 n1 c1 bs) (h2 : NB.RdB w a2 n2 c2 sp) (h3 : NB.RdBB w a3 n3 c3 ps) :
    Calls Try.prog 5 #[.slice a n c, .slice a1 n1 c1, .slice a2 n2 c2, .slice a3 n3 c3] w fun e w' => e = .returned (.bool true) ∧ Below w.heap.size w w' := by
  have hbd := Rd.bound h
  have hbd1 := NB.RdBB.bound h1
  have hbd2 := Rd.bound h2
  have hbd3 := NB.RdBB.bound h3
  by_cases e0 : 16 < n
  · have e0i : (16 : Int) < (n : Int) := by omega
    go_enter Try.func5, Try.ntmps5
    go_wp2_with (first
      | (go_at_call 8; refine (rawake_any _).mono ?_; rintro e w1 ⟨rfl, hb1⟩))
    go_ret
    exact ⟨rfl, hb1⟩
  have e0i : ¬ (16 : Int) < (n : Int) := by omega
  by_cases e1 : n1 < n
  · have e1i : (n1 : Int) < (n : Int) := by omega
    go_enter Try.func5, Try.ntmps5
    go_wp2_with (first
      | (go_at_call 8; refine (rawake_any _).mono ?_; rintro e w1 ⟨rfl, hb1⟩))
    go_ret
    exact ⟨rfl, hb1⟩
  have e1i : ¬ (n1 : Int) < (n : Int) := by omega
  by_cases e2 : n2 < n
  · have e2i : (n2 : Int) < (n : Int) := by omega
    go_enter Try.func5, Try.ntmps5
    go_wp2_with (first
      | (go_at_call 8; refine (rawake_any _).mono ?_; rintro e w1 ⟨rfl, hb1⟩))
    go_ret
    exact ⟨rfl, hb1⟩
  have e2i : ¬ (n2 : Int) < (n : Int) := by omega
  by_cases e3 : n3 < n
  · have e3i : (n3 : Int) < (n : Int) := by omega
    go_enter Try.func5, Try.ntmps5
    go_wp2_with (first
      | (go_at_call 8; refine (rawake_any _).mono ?_; rintro e w1 ⟨rfl, hb1⟩))
    go_ret
    exact ⟨rfl, hb1⟩
  have e3i : ¬ (n3 : Int) < (n : Int) := by omega
  have HNEW := Go.Lib.hid (fun w1 hb => qd_new w w1 hb 120 (by omega) (by omega))
  obtain ⟨ti, hti, hzi, hsi, hbi⟩ := slKI.hi
  obtain ⟨ts, hts, hzs, hss, hbs⟩ := slKS.hi
  obtain ⟨tb, htb, hzb, hsb, hbb⟩ := slKB.hi
  have HBI := Go.Lib.hid hbi
  have HBS := Go.Lib.hid hbs
  have HBB := Go.Lib.hid hbb
  clear hbi hbs hbb
  go_enter Try.func5, Try.ntmps5
  go_wp2_with (first
    | (go_at_call 8; refine (rawake_any _).mono ?_; rintro e w1 ⟨rfl, hb1⟩)
    | (go_at_call 9; refine (HNEW.out _ hb1).mono ?_; rintro e w2 ⟨p, rfl, hD⟩)
    | (go_at_call 10; refine (rq_open 120 40 3 0 hD (by omega) (by omega) (by omega) (by omega) (by omega) (by omega)).mono ?_; rintro e w3 ⟨r, rfl, hR⟩)
    | (at_make; refine wpList_make_full w3 rfl (.const (.int .i64 16)) (.const (.int .i64 16)) 45 rfl w3.heap.size 3 ti (.int .i64 0) 1 slKI.ht hti hzi hsi .i64 .i64 _ _ 16 rfl rfl (by simp) (by simp) (by rw [HBI.out]; omega) (by unfold maxLen; omega) (Nat.le_refl _) ?_; intro w4 ho4 hg4; obtain ⟨RA4, bl4⟩ := rowK_made (.int .i64 0) rfl (by omega) ho4 hg4; clear ho4 hg4)
    | (at_make; refine wpList_make_full w4 rfl (.const (.int .i64 16)) (.const (.int .i64 16)) 46 rfl w4.heap.size 9 ts (.string ⟨#[]⟩) 1 slKS.ht hts hzs hss .i64 .i64 _ _ 16 rfl rfl (by simp) (by simp) (by rw [HBS.out]; omega) (by unfold maxLen; omega) (Nat.le_refl _) ?_; intro w5 ho5 hg5; obtain ⟨RB5, bl5⟩ := rowK_made (.string ⟨#[]⟩) rfl (by omega) ho5 hg5; clear ho5 hg5))
  have RA5 : Rw w5 w3.heap.size (intsK (List.replicate 16 0)) 3 := RA4.below bl5
  replace RB5 : Rw w5 w4.heap.size (strsK (List.replicate 16 [])) 9 := RB5
  have hgg : w3.heap.size ≠ w4.heap.size := by have := RA4.lt; omega
  have hR5 := hR.keepX (Y := fun k => k = w3.heap.size ∨ k = w4.heap.size) (bel bl4 bl5 bl4.size) (fun k hk => .inr (by have := bl4.size; omega)) (fun k hk => hk.elim (fun e => by rw [e]; exact RA5.lt) (fun e => by rw [e]; exact RB5.lt))
  have hxl : ∀ k : Nat, k = w3.heap.size ∨ k = w4.heap.size → w.heap.size ≤ k := fun k hk => by have := (rq_low hR).size; have := bl4.size; omega
  generalize w3.heap.size = g at *
  generalize w4.heap.size = f at *
  clear hR hD hb1 bl4 bl5 RA4
  go_loopw [12, 13, 16, 17] (fun x y t j wr => ∃ (m r top : Nat) (A : List Nat) (B : List (List UInt8)) (E : List En) (D : Dk) (R : Rp), m ≤ n ∧ x = .pointer (some ⟨r, 0, none⟩) ∧ y = .int .i64 0 ∧ t = .int .i64 top ∧ j = .int .i64 m ∧ HasRp (fun k => k = g ∨ k = f) w wr r p D R ∧ Rw wr g (intsK A) 3 ∧ Rw wr f (strsK B) 9 ∧ Kst m m E D R ∧ Tab E A B top) (fun _ _ _ j _ => n - (intOf j).toNat)
  case atStart => exact ⟨0, r, 0, List.replicate 16 0, List.replicate 16 [], [], Dk.fresh 120, rp0 40 3 0, by omega, rfl, rfl, rfl, rfl, hR5, RA5, RB5, kst_begin, tab_begin⟩
  case round =>
    clear hR5 RA5 RB5
    obtain ⟨m, r, top, A, B, E, D, R, hm, rfl, rfl, rfl, rfl, hR, RA, RB, hK, hT⟩ := hrel
    have hlow := rq_low hR
    have hEl := hK.len
    have htp := hT.top
    have HK := Go.Lib.hid hK
    have HT := Go.Lib.hid hT
    clear hK hT
    by_cases hmn : m < n
    case neg =>
      obtain rfl : m = n := by omega
      have hmi : ¬ (m : Int) < (m : Int) := by omega
      go_wp2_with fail
      go_ret
      exact ⟨rfl, hlow⟩
    have hmi : (m : Int) < (n : Int) := by omega
    obtain ⟨b0, o0, rfl, hc0⟩ := NB.RdB.at h (by omega)
    have q0w := hc0 m hmn
    obtain ⟨b1, o1, rfl, hc1⟩ := NB.RdBB.pos h1 (by omega)
    obtain ⟨ai, ni, ci, q1w, hri0⟩ := hc1 m (by omega)
    obtain ⟨b2, o2, rfl, hc2⟩ := NB.RdB.at h2 (by omega)
    have q2w := hc2 m (by omega)
    obtain ⟨b3, o3, rfl, hc3⟩ := NB.RdBB.pos h3 (by omega)
    obtain ⟨ap, np, cp, q3w, hrp0⟩ := hc3 m (by omega)
    clear hc0 hc1 hc2 hc3
    obtain ⟨y0, hy0⟩ : ∃ y0, lb.getD m 0 = y0 := ⟨_, rfl⟩
    obtain ⟨y2, hy2⟩ : ∃ y2, sp.getD m 0 = y2 := ⟨_, rfl⟩
    obtain ⟨t, ht⟩ : ∃ t, bs.getD m [] = t := ⟨_, rfl⟩
    obtain ⟨pk, hpk⟩ : ∃ pk, ps.getD m [] = pk := ⟨_, rfl⟩
    rw [hy0] at q0w
    rw [hy2] at q2w
    rw [ht] at hri0
    rw [hpk] at hrp0
    clear hy0 hy2 ht hpk
    have hsi := NB.RdB.size hri0
    have hbi := Rd.bound hri0
    have hbp := Rd.bound hrp0
    have q0 := (Below.cell hlow (World.block_lt_of_cell? _ _ q0w)).trans q0w
    have q1 := (Below.cell hlow (World.block_lt_of_cell? _ _ q1w)).trans q1w
    have q2 := (Below.cell hlow (World.block_lt_of_cell? _ _ q2w)).trans q2w
    have q3 := (Below.cell hlow (World.block_lt_of_cell? _ _ q3w)).trans q3w
    have HSI := Go.Lib.hid hsi
    clear hsi
    by_cases hl60 : 60 < ni
    · have hl60i : (60 : Int) < (ni : Int) := by omega
      go_wp2_with fail
      go_ret
      exact ⟨rfl, hlow⟩
    have hl60i : ¬ (60 : Int) < (ni : Int) := by omega
    by_cases hl9 : 9 < np
    · have hl9i : (9 : Int) < (np : Int) := by omega
      go_wp2_with fail
      go_ret
      exact ⟨rfl, hlow⟩
    have hl9i : ¬ (9 : Int) < (np : Int) := by omega
    obtain ⟨k, hk, hky⟩ : ∃ k : Nat, k < 16 ∧ bits .and .u8 (y0.toNat : Int) 15 = (k : Int) := ⟨y0.toNat % 16, by omega, kand15 y0⟩
    obtain ⟨s, hs, hsy⟩ : ∃ s : Nat, s < 8 ∧ bits .and .u8 (y2.toNat : Int) 7 = (s : Int) := ⟨y2.toNat % 8, by omega, kand7 y2⟩
    clear q0 q1 q2 q3
    exact rke_round w wr p g f n c n1 c1 n2 c2 n3 c3 b0 o0 b1 o1 b2 o2 b3 o3 hgg hxl hbd hbd1 hbd2 hbd3 m r top A B E D R hmn e0 e1 e2 e3 hR RA RB HK.out HT.out y0 y2 ai ni ci t ap np cp pk q0w q1w hri0 q2w q3w hrp0 hl60 hl9 k s hk hky hs hsy _ rfl _ _ _ _ _ _ _ _ _ _ _ _ _ _ _ _ _ _ _ _ _ _ _ _ _ _ _ _ _ _ _ _ _ _ _ _ _ _ _ _ _ _ _ _ _ _ _ _ _ _ _ _ _ _ _ _ _ _ _ _ _ _ _ _ _ _ _ _ _ _ _ _ _ _ _ _ _ _ _ _ _ _ _ _ _ _ _ _ _ _ _ _ _ _ _ _ _ _ _ _ _ _ _ _ _ _ _ _ _ _ _ _ _ _ _ _ _ _ _ _ _ _ _ _ _ _ _ _ _ _ _ _ _ _ _ _ _ _ _ _ _ _ _ _ _ _ _ _ _ _ _ _ _ _ _ _ _ _ _ _ _ _ _ _ _ _ _ _ _ _ _ _ _ _ _ _ _ _ _ _ _ _ _ _ _ _ _ _ _ _ _ _ _ _ _ _ _ _ _ _ _ _ _ _ _ _ _ _ _ _ _ _ _ _ _ _ _ _ _ _ _ _ _ _ _ _ _ _ _ _ _ _ _ _ _ _ _ _ _ _ _ _ _ _ _ _ _ _ _ _ _ _ _ _ _ _ _ _ _ _ _ _ _ _ _ _ _ _ _ _ _ _ _ _ _ _ _ _ _ _ _ _ _ _ _ _ _ _ (Go.Lib.hid (by
      intro z8 z18 z19 z20 z21 z22 z23 z24 z25 z26 z27 z28 z29 z30 z31 z72 z73 z74 z75 z76 z77 z78 z79 z80 z81 z82 z83 z84 z85 z86 z87 z88 z89 z90 z91 z92 z93 z94 z95 z96 z97 z98 z99 z100 z101 z102 z103 z104 z105 z106 z107 z108 z109 z110 z111 z112 z113 z114 z115 z116 z117 z118 z119 z120 z121 z122 z123 z124 z125 z126 z127 z128 z129 z130 z131 z132 z133 z134 z135 z136 z137 z138 z139 z140 z141 z142 z143 z144 z145 z146 z147 z148 z149 z150 z151 z152 z153 z154 z155 z156 z157 z158 z159 z160 z161 z162 z163 z164 z165 z166 z167 z168 z169 z170 z171 z172 z173 z174 z175 z176 z177 z178 z179 z180 z181 z182 z183 z184 z185 z186 z187 z188 z189 z190 z191 z192 z193 z194 z195 z196 z197 z198 z199 z200 z201 z202 z203 z204 z205 z206 z207 z208 z209 z210 z211 z212 z213 z214 z215 z216 z217 z218 z219 z220 z221 z222 z223 z224 z225 z226 z227 z228 z229 z230 z231 z232 z233 z234 z235 z236 z237 z238 z239 z240 z241 z242 z243 z244 z245 z246 z247 z248 z249 z250 z251 z252 z253 z254 z255 z256 z257 z258 z259 z260 z261 z262 z263 z264 z265 z266 z267 z268 z269 z270 z271 z272 z273 z274 z275 z276 z277 z278 z279 z280 z281 z282 z283 z284 z285 z286 z287 z288 z289 z290 z291 z292 z293 z294 z295 z296 r' top' A' B' E' D' R' v h4 h5 h6 h7 h8
      refine ⟨?_, ?_⟩
      · (repeat apply Exists.intro)
        refine ⟨?_, rfl⟩
        exact ⟨m + 1, r', top', A', B', E', D', R', by omega, rfl, rfl, rfl, by simp, h4, h5, h6, h7, h8⟩
      · show n - (intOf (.int .i64 ((m : Int) + 1))).toNat < n - (intOf (.int .i64 (m : Int))).toNat
        simp [intOf]; omega))
end Go.Proofs.Ytjfidhjnbcmhfaa
