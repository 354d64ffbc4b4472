/- Frames, walked: Put, Get. -/
import Derived.Test.YtadgokegjmigoaaDoorFra
import Derived.Test.YtadgokegjmigoaaDoorOpen
namespace Go.Proofs.YtadgokegjmigoaaDoor
open Go.RowKit
open Go.NB (Rd Kp Stp Off Dis Rr encU oneB dB Rw digs)

/-- Bytes and an error, in new memory. -/
def BytE (w : World) (r : List UInt8 × Int) (e : Ending) (w' : World) : Prop :=
  ∃ a c, e = .returned (.tuple #[.slice a r.1.length c, .int .i64 r.2]) ∧ NB.OwnB w' w.heap.size 5 (.slice a r.1.length c) r.1 ∧ Below w.heap.size w w'

set_option maxHeartbeats 1000000 in
theorem fput_any (w : World) (k : UInt8) (a : Option Addr) (n c : Nat) (b : List UInt8) (hr : NB.RdB w a n c b) :
    Calls Tryd.prog 19 #[.agg #[.int .u8 (k.toNat : Int), .slice a n c]] w (BytE w (fputM (k, b))) := by
  have hsz := NB.RdB.size hr
  have hkl := k.toNat_lt
  by_cases h0 : 65535 < n
  · have hq : fputM (k, b) = ([], 13) := fput_big (by simp only; omega)
    rw [hq]
    have h0' : (65535 : Int) < (n : Int) := by omega
    go_enter Tryd.func19, Tryd.ntmps19
    go_wp2
    go_ret2
    exact ⟨none, 0, rfl, World.ownsRow_nil _ _ _ _, oneB _ _⟩
  · have hq : fputM (k, b) = (sealedL (encU b.length ++ [k] ++ b), 0) := fput_is (by simp only; omega)
    rw [hq]
    have h0' : ¬ (65535 : Int) < (n : Int) := by omega
    have hx9 := NB.encU_len (x := n) (by omega)
    have hZ : (encU b.length ++ [k] ++ b).length ≤ 100000 := by rw [hsz]; simp; omega
    have hrow := NB.rw_new w [.int .u8 (k.toNat : Int), .slice a n c] 50 rfl
    have hB1 := oneB w (.cells #[.int .u8 (k.toNat : Int), .slice a n c] 50)
    simp only [List.toArray] at hrow
    have HSZ := Go.Lib.hid hsz
    obtain ⟨Z, hZe⟩ : ∃ Z, Z = encU b.length ++ [k] ++ b := ⟨_, rfl⟩
    rw [← hZe] at hZ ⊢
    have HZ := Go.Lib.hid hZe; clear hZe
    obtain ⟨SZ, hSZ⟩ : ∃ SZ, SZ = sealedL Z := ⟨_, rfl⟩
    have HSL := Go.Lib.hid hSZ
    rw [← hSZ]; clear hSZ
    go_enter Tryd.func19, Tryd.ntmps19
    go_wp2_with fail
    refine (wnew_any _).mono ?_
    rintro e w1 ⟨p, F1, rfl, hW1, hb1⟩
    have row1 := hrow.below hb1
    have B1 := NB.bel hB1 hb1 hB1.size
    have hoff : Off F1 w1 a n c b := Off.old hr B1 (fun k hk => Nat.le_trans hB1.size (hW1.foot k hk).1)
    have hbase := hB1.size
    have hbx : (w.alloc (.cells #[.int .u8 (k.toNat : Int), .slice a n c] 50)).heap.size = w.heap.size + 1 := by simp
    clear hrow hB1 hb1
    generalize (w.alloc (.cells #[.int .u8 (k.toNat : Int), .slice a n c] 50)).heap.size = base at *
    have hG : ∀ F bs w', HasW w' base p F bs → ¬ F w.heap.size := fun F bs w' h hk => by have := (h.foot _ hk).1; omega
    obtain ⟨c0, c1, _⟩ := NB.rw2 row1
    go_wp2_with fail
    refine (wuint_any _ _ _ _ _ n (by omega) hW1 (by simp)).mono ?_
    rintro e w2 ⟨rfl, F2, hW2, hS2⟩
    rw [List.nil_append] at hW2
    have row2 := row1.keep hS2.kp (hG _ _ _ hW1)
    have B2 := NB.bel B1 (hW1.low hS2) hbase
    have off2 := hoff.step hS2
    clear c0 c1 hW1 B1 hoff row1
    obtain ⟨c0, c1, _⟩ := NB.rw2 row2
    go_wp2_with fail
    have ob := oneB w2 (.cells #[.int .u8 (k.toNat : Int)] 5)
    have hW3 := hW2.below ob
    have row3 := row2.below ob
    have off3 := off2.below ob
    have B3 := NB.bel B2 ob B2.size
    refine (wraw_any _ _ _ _ _ _ 1 1 [k] hW3 (NB.rdB_lit (n := 1) [k] rfl rfl (by unfold maxLen; omega) rfl) (by simp; omega)).mono ?_
    rintro e w4 ⟨rfl, F4, hW4, hS4⟩
    have row4 := row3.keep hS4.kp (hG _ _ _ hW3)
    have B4 := NB.bel B3 (hW3.low hS4) hbase
    have off4 := off3.step hS4
    clear c0 c1 hW2 B2 off2 row2 hW3 row3 off3 B3 ob
    obtain ⟨c0, c1, _⟩ := NB.rw2 row4
    go_wp2_with fail
    refine (wraw_any _ _ _ _ _ _ n c b hW4 off4.rd (by simp; omega)).mono ?_
    rintro e w5 ⟨rfl, F5, hW5, hS5⟩
    rw [show encU n ++ [k] ++ b = Z by rw [HZ.out, HSZ.out]] at hW5
    have B5 := NB.bel B4 (hW4.low hS5) hbase
    clear c0 c1 hW4 B4 off4 row4
    go_wp2_with fail
    refine (wout_any _ _ _ _ _ hW5 (by omega)).mono ?_
    rintro e w6 ⟨a6, c6, rfl, ho6, hb6⟩
    have r6 := (Off.fresh (F := fun _ => False) ho6 (fun _ h => h.elim)).rd
    have B6 := NB.bel B5 hb6 B5.size
    clear hW5 B5 ho6 hb6
    go_wp2_with fail
    refine (sealed_any _ _ _ _ _ r6 (by omega)).mono ?_
    rw [← HSL.out]
    rintro e w7 ⟨a7, c7, rfl, ho7, hb7⟩
    go_wp2_with fail
    go_ret2
    exact ⟨a7, c7, rfl, NB.own_mono ho7 B6.size, NB.bel B6 hb7 B6.size⟩

/-- A frame, how many bytes it has, an error. -/
def GetE (w : World) (r : Fr × Nat × Int) (e : Ending) (w' : World) : Prop :=
  ∃ a n c, e = .returned (.tuple #[.agg #[.int .u8 (r.1.1.toNat : Int), .slice a n c], .int .i64 (r.2.1 : Int), .int .i64 r.2.2]) ∧ NB.RdB w' a n c r.1.2 ∧ Below w.heap.size w w' ∧ (∀ b o, a = some ⟨b, o, none⟩ → w.heap.size ≤ b)
theorem own_empty (w : World) (t : TypeId) {g : Nat} (hg : g = w.heap.size) : (w.alloc (.cells #[] t)).ownsRow w.heap.size t 1 (.slice (some ⟨g, 0, none⟩) 0 0) 0 [] := by
  subst hg
  exact ⟨rfl, .inr ⟨w.heap.size, 0, #[], rfl, Nat.le_refl _, heap_alloc_new w _, Nat.le_refl _, Nat.zero_le _, rfl, rfl⟩⟩
theorem head_of {b l : List UInt8} {x : Nat} (h : b = encU x ++ l) (hu : Rr.uint ⟨b, 0⟩ = (⟨l, 0⟩, x)) (hx : x ≤ 65535) : headM b = ((encU x).length, x, 0) := by
  have h8 := NB.digs_le8 (x := x) (by omega)
  unfold headM
  rw [hu]
  simp only
  rw [if_neg (by simp), if_neg (by omega), h]
  simp only [encU, List.cons_append, List.headD_cons, List.length_cons, UInt8.toNat_ofNat']
  rw [Nat.mod_eq_of_lt (by omega)]
theorem cut_mid {w : World} {a : Option Addr} {n c : Nat} {b : List UInt8} (h : NB.RdB w a n c b) (i j : Nat) (hi : i ≤ j) (hj : j ≤ n) : NB.RdB w (if c = i then a else a.map fun x => x.add i) (j - i) (c - i) ((b.take j).drop i) := by
  have h1 := NB.rdB_cut h j hj
  exact NB.rdB_tail h1 i hi

set_option maxHeartbeats 1000000 in
theorem fget_any (w : World) (a : Option Addr) (n c : Nat) (b : List UInt8) (hr : NB.RdB w a n c b) (hl : n ≤ 100000000) :
    Calls Tryd.prog 22 #[.slice a n c] w (GetE w (fgetM b)) := by
  have hsz := NB.RdB.size hr
  have hbd := Rd.bound hr
  have hle := hr.le
  have cth := fun w h => fhead_any w a n c b h
  rcases get_ways b with ⟨e, he, h0, hm⟩ | ⟨x, l, _, _, hu, hb, hm⟩ | ⟨x, l, h, hu, hb, hll, hm⟩ | ⟨x, l, h, hu, hb, hll, hrr, hm⟩ | ⟨x, k, l, h, hu, hb, hll, hrr, hm⟩
  · have hq : headM b = (0, 0, e) := by unfold headM; rw [if_pos (by rw [he]; exact h0), he]
    rw [hm]
    rw [hq] at cth
    have he' : (e != 0) = true := by simp [h0]
    clear h0 he hq hm
    go_enter Tryd.func22, Tryd.ntmps22
    go_wp2_with fail
    refine (cth _ (hr.below (oneB _ _))).mono ?_
    rintro e2 w1 ⟨rfl, hb1⟩
    have B1 := NB.bel (oneB _ _) hb1 (oneB w (.cells #[.int .u8 0, .slice none 0 0] 50)).size
    have hA1 := (NB.rw_new w [.int .u8 0, .slice none 0 0] 50 rfl).below hb1
    obtain ⟨d0, d1, g0, g1⟩ := NB.rw2 hA1
    have hltA := hA1.lt
    clear hb1 hA1
    go_wp2_with fail
    refine bodyPost_ret (v := .tuple #[.agg #[.int .u8 0, .slice none 0 0], .int .i64 0, .int .i64 e]) (by simp [results, Tryd.results22, go_sem, d0, d1, hltA]) rfl ?_
    exact ⟨none, 0, 0, rfl, Rd.nil_mk, (B1.setCell (p := ⟨w.heap.size, 0, none⟩) (Nat.le_refl _) (.int .u8 0)).setCell (p := ⟨w.heap.size, 1, none⟩) (Nat.le_refl _) (.slice none 0 0), fun b o e => nomatch e⟩
  · have hq : headM b = (0, 0, 13) := by unfold headM; rw [hu]; simp only; rw [if_neg (by simp), if_pos hb]
    rw [hm]
    rw [hq] at cth
    clear hq hm hu hb
    go_enter Tryd.func22, Tryd.ntmps22
    go_wp2_with fail
    refine (cth _ (hr.below (oneB _ _))).mono ?_
    rintro e2 w1 ⟨rfl, hb1⟩
    have B1 := NB.bel (oneB _ _) hb1 (oneB w (.cells #[.int .u8 0, .slice none 0 0] 50)).size
    have hA1 := (NB.rw_new w [.int .u8 0, .slice none 0 0] 50 rfl).below hb1
    obtain ⟨d0, d1, g0, g1⟩ := NB.rw2 hA1
    have hltA := hA1.lt
    clear hb1 hA1
    go_wp2_with fail
    refine bodyPost_ret (v := .tuple #[.agg #[.int .u8 0, .slice none 0 0], .int .i64 0, .int .i64 13]) (by simp [results, Tryd.results22, go_sem, d0, d1, hltA]) rfl ?_
    exact ⟨none, 0, 0, rfl, Rd.nil_mk, (B1.setCell (p := ⟨w.heap.size, 0, none⟩) (Nat.le_refl _) (.int .u8 0)).setCell (p := ⟨w.heap.size, 1, none⟩) (Nat.le_refl _) (.slice none 0 0), fun b o e => nomatch e⟩
  · have hq := head_of h hu hb
    rw [hm]
    rw [hq] at cth
    have hxl := NB.encU_len (x := x) (by omega)
    have hgt : (n : Int) < ((encU x).length : Int) + (x : Int) + 5 := by
      have := congrArg List.length h
      simp at this
      omega
    clear hq hm hu h
    generalize (encU x).length = X at *
    go_enter Tryd.func22, Tryd.ntmps22
    go_wp2_with fail
    refine (cth _ (hr.below (oneB _ _))).mono ?_
    rintro e2 w1 ⟨rfl, hb1⟩
    have B1 := NB.bel (oneB _ _) hb1 (oneB w (.cells #[.int .u8 0, .slice none 0 0] 50)).size
    have hA1 := (NB.rw_new w [.int .u8 0, .slice none 0 0] 50 rfl).below hb1
    obtain ⟨d0, d1, g0, g1⟩ := NB.rw2 hA1
    have hltA := hA1.lt
    clear hb1 hA1
    go_wp2_with fail
    refine bodyPost_ret (v := .tuple #[.agg #[.int .u8 0, .slice none 0 0], .int .i64 0, .int .i64 10]) (by simp [results, Tryd.results22, go_sem, d0, d1, hltA]) rfl ?_
    exact ⟨none, 0, 0, rfl, Rd.nil_mk, (B1.setCell (p := ⟨w.heap.size, 0, none⟩) (Nat.le_refl _) (.int .u8 0)).setCell (p := ⟨w.heap.size, 1, none⟩) (Nat.le_refl _) (.slice none 0 0), fun b o e => nomatch e⟩
  · have hq := head_of h hu hb
    rw [hm]
    rw [hq] at cth
    have hxl := NB.encU_len (x := x) (by omega)
    have hln : (encU x).length + x + 5 ≤ n := by
      have := congrArg List.length h
      simp at this
      omega
    have hnm : ¬ (n : Int) < ((encU x).length : Int) + (x : Int) + 5 := by omega
    have hcm : ((encU x).length : Int) + (x : Int) + 5 ≤ (c : Int) := by omega
    have hpos : (0 : Int) ≤ ((encU x).length : Int) + (x : Int) + 5 := by omega
    clear hq hm hu h
    generalize (encU x).length = X at *
    have e5 : ((X : Int) + (x : Int) + 5).toNat = X + x + 5 := by omega
    have HRR := Go.Lib.hid hrr; clear hrr
    go_enter Tryd.func22, Tryd.ntmps22
    go_wp2_with fail
    refine (cth _ (hr.below (oneB _ _))).mono ?_
    rintro e2 w1 ⟨rfl, hb1⟩
    have B1 := NB.bel (oneB _ _) hb1 (oneB w (.cells #[.int .u8 0, .slice none 0 0] 50)).size
    have hA1 := (NB.rw_new w [.int .u8 0, .slice none 0 0] 50 rfl).below hb1
    clear hb1
    go_wp2_with fail
    refine (right_any _ _ _ _ (b.take (X + x + 5)) (NB.rdB_cut (hr.below B1) _ hln) (by omega)).mono ?_
    rw [HRR.out]
    rintro e2 w2 ⟨rfl, hb2⟩
    have B2 := NB.bel B1 hb2 B1.size
    have hA2 := hA1.below hb2
    obtain ⟨d0, d1, g0, g1⟩ := NB.rw2 hA2
    have hltA := hA2.lt
    clear hb2 hA1 hA2 B1
    go_wp2_with fail
    refine bodyPost_ret (v := .tuple #[.agg #[.int .u8 0, .slice none 0 0], .int .i64 0, .int .i64 14]) (by simp [results, Tryd.results22, go_sem, d0, d1, hltA]) rfl ?_
    exact ⟨none, 0, 0, rfl, Rd.nil_mk, (B2.setCell (p := ⟨w.heap.size, 0, none⟩) (Nat.le_refl _) (.int .u8 0)).setCell (p := ⟨w.heap.size, 1, none⟩) (Nat.le_refl _) (.slice none 0 0), fun b o e => nomatch e⟩
  · have hq := head_of h hu hb
    rw [hm]
    rw [hq] at cth
    have hxl := NB.encU_len (x := x) (by omega)
    have hlen : n = (encU x).length + (l.length + 1) := by
      have := congrArg List.length h
      simp at this
      omega
    have hbody : (b.take ((encU x).length + 1 + x)).drop ((encU x).length + 1) = l.take x := by
      rw [h, List.drop_take, show (encU x).length + 1 + x - ((encU x).length + 1) = x by omega, ← List.drop_drop, List.drop_left' rfl]
      rfl
    have hkat : b.getD (encU x).length 0 = k := by rw [h]; simp [List.getD]
    have hln : (encU x).length + x + 5 ≤ n := by omega
    have hnm : ¬ (n : Int) < ((encU x).length : Int) + (x : Int) + 5 := by omega
    have hcm : ((encU x).length : Int) + (x : Int) + 5 ≤ (c : Int) := by omega
    have hpos : (0 : Int) ≤ ((encU x).length : Int) + (x : Int) + 5 := by omega
    have htx : (l.take x).length = x := by rw [List.length_take]; omega
    have htx2 : ((k, l.take x) : Fr).2.length = x := htx
    clear hq hm hu h
    generalize (encU x).length = X at *
    have e5 : ((X : Int) + (x : Int) + 5).toNat = X + x + 5 := by omega
    have hcx : ¬ c = X + 1 := by omega
    have HRR := Go.Lib.hid hrr; have HBD := Go.Lib.hid hbody; have HTX := Go.Lib.hid htx; have HK := Go.Lib.hid hkat
    clear hrr hbody htx htx2 hkat
    clear hlen hsz
    go_enter Tryd.func22, Tryd.ntmps22
    go_wp2_with fail
    refine (cth _ (hr.below (oneB _ _))).mono ?_
    rintro e2 w1 ⟨rfl, hb1⟩
    have B1 := NB.bel (oneB _ _) hb1 (oneB w (.cells #[.int .u8 0, .slice none 0 0] 50)).size
    have hA1 := (NB.rw_new w [.int .u8 0, .slice none 0 0] 50 rfl).below hb1
    clear hb1
    go_wp2_with fail
    refine (right_any _ _ _ _ (b.take (X + x + 5)) (NB.rdB_cut (hr.below B1) _ hln) (by omega)).mono ?_
    rw [HRR.out]
    rintro e2 w2 ⟨rfl, hb2⟩
    have B2 := NB.bel B1 hb2 B1.size
    have hA2 := hA1.below hb2
    clear hb2 hA1 B1 cth
    obtain ⟨b0, o0, ea, hc0⟩ := NB.RdB.at (hr.below (B2.alloc B2.size (.cells #[] 5))) (by omega)
    have hmid := cut_mid (hr.below (B2.alloc B2.size (.cells #[] 5))) (X + 1) (X + 1 + x) (by omega) (by omega)
    rw [HBD.out, if_neg hcx] at hmid
    subst ea
    have q0 := hc0 X (by omega)
    rw [HK.out] at q0
    have hq9 : b0 < w2.heap.size := by
      have h9 := (hr.below B2).lt b0 o0 rfl (by intro h9; have := hr.len; rw [h9] at this; simp at this; omega)
      exact h9
    clear hc0
    simp only [Option.map_some, NB.addr_add] at hmid
    have B2a := B2.alloc B2.size (.cells #[] 5)
    have hA2a := hA2.below (oneB w2 (.cells #[] 5))
    have hlt2 : w.heap.size < w2.heap.size := hA2.lt
    have hm1 : (0 + (X + 1 + x - (X + 1))) * 1 ≤ 140737488355328 := by omega
    have hm2 : 0 + (X + 1 + x - (X + 1)) ≤ maxLen := by unfold maxLen; omega
    go_wp2_with (at_builtin; refine NB.wpList_append_at rfl (.tmp 37) (.tmp 45) 22 rfl w2.heap.size slTB _ 0 [] rfl (own_empty w2 _ rfl) _ _ _ ((l.take x).map NB.u8v) rfl hmid (NB.u8v_one _) hm1 hm2 (oneB _ _).size ?_; intro v3 w3 ho3 hg3 hv3; obtain ⟨a3, c3, rfl, hr3, hlo3, _⟩ := NB.rd_of_own ho3; have hb3 : Below w2.heap.size (w2.alloc (.cells #[] 5)) w3 := (Below.refl _ _).grown hg3 (oneB _ _).size (fun j e => by cases e; exact Nat.le_refl _); have q3 := (hb3.cell (p := ⟨b0, o0 + X, none⟩) hq9).trans q0; have hA3 : Rw w3 w.heap.size _ _ := (hb3.block w.heap.size hlt2).trans hA2a; obtain ⟨d0, d1, g0, g1⟩ := NB.rw2 hA3)
    have B3 : Below w.heap.size w w3 := B2a.trans (hb3.mono (Nat.le_of_lt hlt2))
    have hltA := hA3.lt
    refine bodyPost_ret (v := .tuple #[.agg #[.int .u8 (k.toNat : Int), .slice a3 x c3], .int .i64 ((X + x + 5 : Nat) : Int), .int .i64 0]) (by simp [results, Tryd.results22, go_sem, d0, d1, hltA]) rfl ?_
    have K3 : Kp (fun j => j = w.heap.size) w3 ((w3.setCell ⟨w.heap.size, 0, none⟩ (.int .u8 (k.toNat : Int))).setCell ⟨w.heap.size, 1, none⟩ (.slice a3 x c3)) := ((Kp.refl (fun j => j = w.heap.size) w3).setCell (x := ⟨w.heap.size, 0, none⟩) (.inl rfl) (.int .u8 (k.toNat : Int))).setCell (x := ⟨w.heap.size, 1, none⟩) (.inl rfl) (.slice a3 x c3)
    have hrB : NB.RdB w3 a3 x c3 (l.take x) := by
      have := hr3
      rw [show 0 + (X + 1 + x - (X + 1)) = x by omega, List.nil_append] at this
      exact this
    have hlow : ∀ b o, a3 = some ⟨b, o, none⟩ → w2.heap.size ≤ b := fun b o e => (hlo3 b o e).1
    exact ⟨a3, _, c3, rfl, K3.rdB hrB (fun b o e _ hb => by have := hlow b o e; omega), (B3.setCell (p := ⟨w.heap.size, 0, none⟩) (Nat.le_refl _) _).setCell (p := ⟨w.heap.size, 1, none⟩) (Nat.le_refl _) _, fun b o e => Nat.le_of_lt (Nat.lt_of_lt_of_le hlt2 (hlow b o e))⟩
end Go.Proofs.YtadgokegjmigoaaDoor
