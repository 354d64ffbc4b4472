/- The cell's reference, walked: a Set. -/
import Derived.Test.YtcdapjfaekamkaaRsd
import Derived.Test.YtcdapjfaekamkaaTals
import Derived.Test.YtcdapjfaekamkaaPl
namespace Go.Proofs.Ytcdapjfaekamkaa
open Go.RowKit
open Go.NB.Crc
open Go.NB (Rd Dk Kp Stp Off Dis val Ce footC)

structure TwoB (g : Nat) (r3 r4 : List Value) (w : World) : Prop where
  a : Rw w g r3 49
  b : Rw w (g + 1) r4 53
/-- Four boxes: a disk and a cell as they came, a disk and a cell that are told. -/
structure FourB (g : Nat) (r3 r4 r6 r7 : List Value) (w : World) : Prop where
  a : Rw w g r3 49
  b : Rw w (g + 1) r4 53
  c : Rw w (g + 2) r6 49
  d : Rw w (g + 3) r7 53
section
variable {g : Nat} {r3 r4 r6 r7 : List Value} {w w' : World}
theorem FourB.below (h : FourB g r3 r4 r6 r7 w) (hb : Below w.heap.size w w') : FourB g r3 r4 r6 r7 w' := ⟨h.a.below hb, h.b.below hb, h.c.below hb, h.d.below hb⟩
theorem FourB.set6 (h : FourB g r3 r4 r6 r7 w) (j : Nat) (v : Value) : FourB g r3 r4 (r6.set j v) r7 (w.setCell ⟨g + 2, j, none⟩ v) := ⟨h.a.other (by omega) _ _, h.b.other (by omega) _ _, h.c.set _ _, h.d.other (by omega) _ _⟩
theorem FourB.set7 (h : FourB g r3 r4 r6 r7 w) (j : Nat) (v : Value) : FourB g r3 r4 r6 (r7.set j v) (w.setCell ⟨g + 3, j, none⟩ v) := ⟨h.a.other (by omega) _ _, h.b.other (by omega) _ _, h.c.other (by omega) _ _, h.d.set _ _⟩
theorem FourB.set3 (h : FourB g r3 r4 r6 r7 w) (j : Nat) (v : Value) : FourB g (r3.set j v) r4 r6 r7 (w.setCell ⟨g, j, none⟩ v) := ⟨h.a.set _ _, h.b.other (by omega) _ _, h.c.other (by omega) _ _, h.d.other (by omega) _ _⟩
theorem FourB.set4 (h : FourB g r3 r4 r6 r7 w) (j : Nat) (v : Value) : FourB g r3 (r4.set j v) r6 r7 (w.setCell ⟨g + 1, j, none⟩ v) := ⟨h.a.other (by omega) _ _, h.b.set _ _, h.c.other (by omega) _ _, h.d.other (by omega) _ _⟩
theorem FourB.put6 {x0 x1 x2 x3 : Value} (h : FourB g r3 r4 [x0, x1, x2, x3] r7 w) (a b c d : Value) : FourB g r3 r4 [a, b, c, d] r7 ((((w.setCell ⟨g + 2, 0, none⟩ a).setCell ⟨g + 2, 1, none⟩ b).setCell ⟨g + 2, 2, none⟩ c).setCell ⟨g + 2, 3, none⟩ d) :=
  (((h.set6 0 a).set6 1 b).set6 2 c).set6 3 d
theorem FourB.put7 {x0 x1 x2 x3 x4 x5 : Value} (h : FourB g r3 r4 r6 [x0, x1, x2, x3, x4, x5] w) (a b c d e f : Value) : FourB g r3 r4 r6 [a, b, c, d, e, f] ((((((w.setCell ⟨g + 3, 0, none⟩ a).setCell ⟨g + 3, 1, none⟩ b).setCell ⟨g + 3, 2, none⟩ c).setCell ⟨g + 3, 3, none⟩ d).setCell ⟨g + 3, 4, none⟩ e).setCell ⟨g + 3, 5, none⟩ f) :=
  (((((h.set7 0 a).set7 1 b).set7 2 c).set7 3 d).set7 4 e).set7 5 f
theorem FourB.put3 {x0 x1 x2 x3 : Value} (h : FourB g [x0, x1, x2, x3] r4 r6 r7 w) (a b c d : Value) : FourB g [a, b, c, d] r4 r6 r7 ((((w.setCell ⟨g, 0, none⟩ a).setCell ⟨g, 1, none⟩ b).setCell ⟨g, 2, none⟩ c).setCell ⟨g, 3, none⟩ d) :=
  (((h.set3 0 a).set3 1 b).set3 2 c).set3 3 d
end
theorem write_ok (D : Dk) (i : Int) (b : List UInt8) (h : ∀ x ∈ D.waits, x.1 < D.l.length) : ∀ x ∈ (D.write i b).1.waits, x.1 < (D.write i b).1.l.length := by
  unfold Dk.write
  split
  · exact h
  split
  · exact h
  split
  · exact h
  · rename_i ha _ _
    have ha : D.at_ i = 0 := by simpa using ha
    obtain ⟨h0, h1⟩ := NB.at_zero ha
    intro x hx
    simp only at hx ⊢
    rcases List.mem_append.1 hx with hx | hx
    · exact h x hx
    · obtain rfl : x = (i.toNat, b) := by simpa using hx
      show i.toNat < _
      omega
theorem write_left (D : Dk) (i : Int) (b : List UInt8) (h1 : -1 ≤ D.left) (h2 : D.left ≤ 9223372036854775807) : -1 ≤ (D.write i b).1.left ∧ (D.write i b).1.left ≤ 9223372036854775807 := by
  unfold Dk.write
  split
  · exact ⟨h1, h2⟩
  split
  · exact ⟨h1, h2⟩
  split
  · exact ⟨h1, h2⟩
  · simp only; omega
theorem four_rw (w : World) (r3 r4 r6 r7 : List Value) :
    FourB w.heap.size r3 r4 r6 r7 ((((w.alloc (.cells r3.toArray 49)).alloc (.cells r4.toArray 53)).alloc (.cells r6.toArray 49)).alloc (.cells r7.toArray 53)) ∧
    Below w.heap.size w ((((w.alloc (.cells r3.toArray 49)).alloc (.cells r4.toArray 53)).alloc (.cells r6.toArray 49)).alloc (.cells r7.toArray 53)) := by
  obtain ⟨h1, h2, h3, hb⟩ := three_rw w r3 r4 r6 49 53 49
  have h4 := rw_new (((w.alloc (.cells r3.toArray 49)).alloc (.cells r4.toArray 53)).alloc (.cells r6.toArray 49)) r7 53 (g := w.heap.size + 3) (by simp)
  exact ⟨⟨h1.below (oneB _ _), h2.below (oneB _ _), h3.below (oneB _ _), h4⟩, hb.alloc hb.size _⟩

/-- What the reference's Set tells. -/
def SetR (w : World) (v0 : Value) (r : (Ce × Dk) × Int) (e : Ending) (w' : World) : Prop :=
  ∃ v, e = .returned (.tuple #[v, cV r.1.1, .int .i64 r.2]) ∧ RefD w' v r.1.2 ∧ Below w.heap.size w w' ∧ ∀ k, locR v k → locR v0 k ∨ w.heap.size ≤ k

set_option maxRecDepth 100000 in
set_option maxHeartbeats 16000000 in
theorem rset_any (w : World) (v : Value) (D : Dk) (c : Ce) (bs : List UInt8) (h : RefD w v D) (hnow : c.now = -1 ∨ c.now = 0 ∨ c.now = 1) (hat : c.at_ ≤ 1000000) (htop : c.top < 18446744073709551616) (hl : -1 ≤ D.left) (hl2 : D.left ≤ 9223372036854775807) (hln : D.l.length ≤ 65536) (hw : D.waits.length ≤ 90000) (hw64 : ∀ x ∈ D.waits, x.2.length = 64 ∧ x.1 < D.l.length) (hbl : bs.length ≤ 1000000) :
    Calls Try.prog 20 #[v, cV c, strL bs] w (SetR w v (c.set D laidL bs)) := by
  have hR0 := h
  have hlow0 := h.low
  have HLOW := Go.Lib.hid hlow0
  clear hlow0
  obtain ⟨a1, c1, a2, c2, rfl, h1, h2⟩ := h
  have hbd1 := h1.bound
  have hbd2 := h2.bound
  obtain ⟨at_, now, turn, top, b, e⟩ := c
  simp only at hnow hat htop
  have T := four_rw w [.slice a1 D.l.length c1, .slice a2 D.waits.length c2, .int .i64 D.left, .bool D.down] [.int .i64 (at_ : Int), .int .i64 now, .int .u64 (turn : Int), .int .u64 (top : Int), .string ⟨b.toArray⟩, .int .i64 e] [.slice none 0 0, .slice none 0 0, .int .i64 0, .bool false] [.int .i64 0, .int .i64 0, .int .u64 0, .int .u64 0, .string ⟨#[]⟩, .int .i64 0]
  simp only [List.toArray] at T
  obtain ⟨wS, hwS⟩ : ∃ wS, (((w.alloc (.cells #[.slice a1 D.l.length c1, .slice a2 D.waits.length c2, .int .i64 D.left, .bool D.down] 49)).alloc (.cells #[.int .i64 (at_ : Int), .int .i64 now, .int .u64 (turn : Int), .int .u64 (top : Int), .string ⟨b.toArray⟩, .int .i64 e] 53)).alloc (.cells #[.slice none 0 0, .slice none 0 0, .int .i64 0, .bool false] 49)).alloc (.cells #[.int .i64 0, .int .i64 0, .int .u64 0, .int .u64 0, .string ⟨#[]⟩, .int .i64 0] 53) = wS := ⟨_, rfl⟩
  rw [hwS] at T
  obtain ⟨HS, BS⟩ := T
  have KS : Kp (fun k => w.heap.size ≤ k ∧ k < w.heap.size + 4) wS wS := Kp.refl _ _
  have HWS := Go.Lib.hid hwS
  clear hwS
  have hsame : ∀ (w9 : World), Below w.heap.size w w9 → RefD w9 (rdV a1 D.l.length c1 a2 D.waits.length c2 D.left D.down) D := fun w9 hb => hR0.below hb
  by_cases h43 : 43 < bs.length
  · have hq : (⟨at_, now, turn, top, b, e⟩ : Ce).set D laidL bs = ((⟨at_, now, turn, top, b, e⟩, D), 13) := by simp [Ce.set, h43]
    rw [hq]
    have h43i : (43 : Int) < (bs.length : Int) := by omega
    unfold rdV cV strL
    go_enter Try.func20, Try.ntmps20
    go_wp2_with fail
    rw [HWS.out]
    refine NB.wp_region_s [2, 3] (TwoB w.heap.size [.slice a1 D.l.length c1, .slice a2 D.waits.length c2, .int .i64 D.left, .bool D.down] [.int .i64 (at_ : Int), .int .i64 now, .int .u64 (turn : Int), .int .u64 (top : Int), .string ⟨b.toArray⟩, .int .i64 e]) (by kernel_rfl) ?_
    have HD0 := HS.below (Below.refl _ wS).drew
    have BD0 : Below w.heap.size w wS.drew := BS.drew
    have KT := KS.drew
    generalize wS.drew = wT at *
    have hA : TwoB w.heap.size [.slice a1 D.l.length c1, .slice a2 D.waits.length c2, .int .i64 D.left, .bool D.down] [.int .i64 (at_ : Int), .int .i64 now, .int .u64 (turn : Int), .int .u64 (top : Int), .string ⟨b.toArray⟩, .int .i64 e] wT := ⟨HD0.a, HD0.b⟩
    have hst : ∀ x y, TwoB w.heap.size [.slice a1 D.l.length c1, .slice a2 D.waits.length c2, .int .i64 D.left, .bool D.down] [.int .i64 (at_ : Int), .int .i64 now, .int .u64 (turn : Int), .int .u64 (top : Int), .string ⟨b.toArray⟩, .int .i64 e] x → Below x.heap.size x y → TwoB w.heap.size [.slice a1 D.l.length c1, .slice a2 D.waits.length c2, .int .i64 D.left, .bool D.down] [.int .i64 (at_ : Int), .int .i64 now, .int .u64 (turn : Int), .int .u64 (top : Int), .string ⟨b.toArray⟩, .int .i64 e] y := fun x y h hb => ⟨h.a.below hb, h.b.below hb⟩
    refine NB.s_a 0 rfl (by kernel_rfl) rfl _ hA hst (fun w' hw' => NB.run_op_load_agg rfl rfl Try.underlying49 rfl _ _ (0, 0) (hw'.a) (m := 4) (by kernel_rfl) (by simp) _ rfl (Below.refl _ w')) (fun K hK => ?_); go_simp; refine hK _ ?_; clear hK K
    refine NB.s_a 1 rfl (by kernel_rfl) rfl _ hA hst (fun w' hw' => NB.run_op_load_agg rfl rfl Try.underlying53 rfl _ _ (0, 0) (hw'.b) (m := 6) (by kernel_rfl) (by simp) _ rfl (Below.refl _ w')) (fun K hK => ?_); go_simp; refine hK _ ?_; clear hK K
    refine NB.s_w 2 rfl (by kernel_rfl) (by kernel_rfl) rfl (fun Q' hK => ?_)
    obtain ⟨y0, y1, y2, y3, t0, t1, t2, t3⟩ := rw4 HD0.c
    go_wp2_with fail
    have HU := HD0.put6 (.slice a1 D.l.length c1) (.slice a2 D.waits.length c2) (.int .i64 D.left) (.bool D.down)
    have BU : Below w.heap.size w ((((wT.setCell ⟨w.heap.size + 2, 0, none⟩ (.slice a1 D.l.length c1)).setCell ⟨w.heap.size + 2, 1, none⟩ (.slice a2 D.waits.length c2)).setCell ⟨w.heap.size + 2, 2, none⟩ (.int .i64 D.left)).setCell ⟨w.heap.size + 2, 3, none⟩ (.bool D.down)) := (((BD0.setCell (p := ⟨w.heap.size + 2, 0, none⟩) (by simp) _).setCell (p := ⟨w.heap.size + 2, 1, none⟩) (by simp) _).setCell (p := ⟨w.heap.size + 2, 2, none⟩) (by simp) _).setCell (p := ⟨w.heap.size + 2, 3, none⟩) (by simp) _
    have KU : Kp (fun k => w.heap.size ≤ k ∧ k < w.heap.size + 4) wS ((((wT.setCell ⟨w.heap.size + 2, 0, none⟩ (.slice a1 D.l.length c1)).setCell ⟨w.heap.size + 2, 1, none⟩ (.slice a2 D.waits.length c2)).setCell ⟨w.heap.size + 2, 2, none⟩ (.int .i64 D.left)).setCell ⟨w.heap.size + 2, 3, none⟩ (.bool D.down)) := (Kp.setCell (Kp.setCell (Kp.setCell (Kp.setCell KT (x := ⟨w.heap.size + 2, 0, none⟩) (.inl (by simp only; omega)) _) (x := ⟨w.heap.size + 2, 1, none⟩) (.inl (by simp only; omega)) _) (x := ⟨w.heap.size + 2, 2, none⟩) (.inl (by simp only; omega)) _) (x := ⟨w.heap.size + 2, 3, none⟩) (.inl (by simp only; omega)) _)
    generalize ((((wT.setCell ⟨w.heap.size + 2, 0, none⟩ (.slice a1 D.l.length c1)).setCell ⟨w.heap.size + 2, 1, none⟩ (.slice a2 D.waits.length c2)).setCell ⟨w.heap.size + 2, 2, none⟩ (.int .i64 D.left)).setCell ⟨w.heap.size + 2, 3, none⟩ (.bool D.down)) = wU at *
    refine ⟨⟨HU.a, HU.b⟩, ?_⟩
    clear y0 y1 y2 y3 t0 t1 t2 t3 HD0 BD0 hA KT
    refine NB.s_w 3 rfl (by kernel_rfl) (by kernel_rfl) rfl (fun Q' hK => ?_)
    obtain ⟨y0, y1, y2, y3, y4, y5, t0, t1, t2, t3, t4, t5⟩ := rw6 HU.d
    go_wp2_with fail
    have HV := HU.put7 (.int .i64 (at_ : Int)) (.int .i64 now) (.int .u64 (turn : Int)) (.int .u64 (top : Int)) (.string ⟨b.toArray⟩) (.int .i64 e)
    have BV : Below w.heap.size w ((((((wU.setCell ⟨w.heap.size + 3, 0, none⟩ (.int .i64 (at_ : Int))).setCell ⟨w.heap.size + 3, 1, none⟩ (.int .i64 now)).setCell ⟨w.heap.size + 3, 2, none⟩ (.int .u64 (turn : Int))).setCell ⟨w.heap.size + 3, 3, none⟩ (.int .u64 (top : Int))).setCell ⟨w.heap.size + 3, 4, none⟩ (.string ⟨b.toArray⟩)).setCell ⟨w.heap.size + 3, 5, none⟩ (.int .i64 e)) := (((((BU.setCell (p := ⟨w.heap.size + 3, 0, none⟩) (by simp) _).setCell (p := ⟨w.heap.size + 3, 1, none⟩) (by simp) _).setCell (p := ⟨w.heap.size + 3, 2, none⟩) (by simp) _).setCell (p := ⟨w.heap.size + 3, 3, none⟩) (by simp) _).setCell (p := ⟨w.heap.size + 3, 4, none⟩) (by simp) _).setCell (p := ⟨w.heap.size + 3, 5, none⟩) (by simp) _
    have KV : Kp (fun k => w.heap.size ≤ k ∧ k < w.heap.size + 4) wS ((((((wU.setCell ⟨w.heap.size + 3, 0, none⟩ (.int .i64 (at_ : Int))).setCell ⟨w.heap.size + 3, 1, none⟩ (.int .i64 now)).setCell ⟨w.heap.size + 3, 2, none⟩ (.int .u64 (turn : Int))).setCell ⟨w.heap.size + 3, 3, none⟩ (.int .u64 (top : Int))).setCell ⟨w.heap.size + 3, 4, none⟩ (.string ⟨b.toArray⟩)).setCell ⟨w.heap.size + 3, 5, none⟩ (.int .i64 e)) := (Kp.setCell (Kp.setCell (Kp.setCell (Kp.setCell (Kp.setCell (Kp.setCell KU (x := ⟨w.heap.size + 3, 0, none⟩) (.inl (by simp only; omega)) _) (x := ⟨w.heap.size + 3, 1, none⟩) (.inl (by simp only; omega)) _) (x := ⟨w.heap.size + 3, 2, none⟩) (.inl (by simp only; omega)) _) (x := ⟨w.heap.size + 3, 3, none⟩) (.inl (by simp only; omega)) _) (x := ⟨w.heap.size + 3, 4, none⟩) (.inl (by simp only; omega)) _) (x := ⟨w.heap.size + 3, 5, none⟩) (.inl (by simp only; omega)) _)
    generalize ((((((wU.setCell ⟨w.heap.size + 3, 0, none⟩ (.int .i64 (at_ : Int))).setCell ⟨w.heap.size + 3, 1, none⟩ (.int .i64 now)).setCell ⟨w.heap.size + 3, 2, none⟩ (.int .u64 (turn : Int))).setCell ⟨w.heap.size + 3, 3, none⟩ (.int .u64 (top : Int))).setCell ⟨w.heap.size + 3, 4, none⟩ (.string ⟨b.toArray⟩)).setCell ⟨w.heap.size + 3, 5, none⟩ (.int .i64 e)) = wV at *
    refine ⟨⟨HV.a, HV.b⟩, ?_⟩
    clear y0 y1 y2 y3 y4 y5 t0 t1 t2 t3 t4 t5 HU BU KU
    refine NB.s_p 4 rfl (by kernel_rfl) (fun K hK => ?_); go_simp; refine hK _ ?_; clear hK K
    refine NB.s_end (by kernel_rfl) ?_
    obtain ⟨y0, y1, y2, y3, _, _, _, _⟩ := rw4 HV.c
    obtain ⟨z0, z1, z2, z3, z4, z5, _, _, _, _, _, _⟩ := rw6 HV.d
    have hz6 := HV.c.lt
    have hz7 := HV.d.lt
    go_wp2_with fail
    refine bodyPost_ret (v := .tuple #[rdV a1 D.l.length c1 a2 D.waits.length c2 D.left D.down, cV ⟨at_, now, turn, top, b, e⟩, .int .i64 13]) (by simp [results, Try.results20, go_sem, y0, y1, y2, y3, z0, z1, z2, z3, z4, z5, hz6, hz7, rdV, cV]) rfl ?_

    exact ⟨_, rfl, hsame _ BV, BV, fun k h => .inl h⟩
  have h43i : ¬ (43 : Int) < (bs.length : Int) := by omega
  by_cases he : e = 0
  case neg =>
    have hq : (⟨at_, now, turn, top, b, e⟩ : Ce).set D laidL bs = ((⟨at_, now, turn, top, b, e⟩, D), e) := by simp [Ce.set, h43, he]
    rw [hq]
    have heb : (e == 0) = false := by simpa using he
    clear hq
    have HE := Go.Lib.hid he
    clear he
    unfold rdV cV strL
    go_enter Try.func20, Try.ntmps20
    go_wp2_with fail
    rw [HWS.out]
    refine NB.wp_region_s [4, 5] (TwoB w.heap.size [.slice a1 D.l.length c1, .slice a2 D.waits.length c2, .int .i64 D.left, .bool D.down] [.int .i64 (at_ : Int), .int .i64 now, .int .u64 (turn : Int), .int .u64 (top : Int), .string ⟨b.toArray⟩, .int .i64 e]) (by kernel_rfl) ?_
    have HD0 := HS.below (Below.refl _ wS).drew
    have BD0 : Below w.heap.size w wS.drew := BS.drew
    have KT := KS.drew
    generalize wS.drew = wT at *
    have hA : TwoB w.heap.size [.slice a1 D.l.length c1, .slice a2 D.waits.length c2, .int .i64 D.left, .bool D.down] [.int .i64 (at_ : Int), .int .i64 now, .int .u64 (turn : Int), .int .u64 (top : Int), .string ⟨b.toArray⟩, .int .i64 e] wT := ⟨HD0.a, HD0.b⟩
    have hst : ∀ x y, TwoB w.heap.size [.slice a1 D.l.length c1, .slice a2 D.waits.length c2, .int .i64 D.left, .bool D.down] [.int .i64 (at_ : Int), .int .i64 now, .int .u64 (turn : Int), .int .u64 (top : Int), .string ⟨b.toArray⟩, .int .i64 e] x → Below x.heap.size x y → TwoB w.heap.size [.slice a1 D.l.length c1, .slice a2 D.waits.length c2, .int .i64 D.left, .bool D.down] [.int .i64 (at_ : Int), .int .i64 now, .int .u64 (turn : Int), .int .u64 (top : Int), .string ⟨b.toArray⟩, .int .i64 e] y := fun x y h hb => ⟨h.a.below hb, h.b.below hb⟩
    refine NB.s_a 0 rfl (by kernel_rfl) rfl _ hA hst (fun w' hw' => NB.run_op_load_agg rfl rfl Try.underlying49 rfl _ _ (0, 0) (hw'.a) (m := 4) (by kernel_rfl) (by simp) _ rfl (Below.refl _ w')) (fun K hK => ?_); go_simp; refine hK _ ?_; clear hK K
    refine NB.s_a 1 rfl (by kernel_rfl) rfl _ hA hst (fun w' hw' => NB.run_op_load_agg rfl rfl Try.underlying53 rfl _ _ (0, 0) (hw'.b) (m := 6) (by kernel_rfl) (by simp) _ rfl (Below.refl _ w')) (fun K hK => ?_); go_simp; refine hK _ ?_; clear hK K
    refine NB.s_p 2 rfl (by kernel_rfl) (fun K hK => ?_); go_simp; refine hK _ ?_; clear hK K
    refine NB.s_a 3 rfl (by kernel_rfl) rfl _ hA hst (fun w' hw' => NB.run_op_load rfl rfl Try.underlying26 rfl (hw'.b.cell 5 _ rfl) (Below.refl _ w')) (fun K hK => ?_); go_simp; refine hK _ ?_; clear hK K
    refine NB.s_w 4 rfl (by kernel_rfl) (by kernel_rfl) rfl (fun Q' hK => ?_)
    obtain ⟨y0, y1, y2, y3, t0, t1, t2, t3⟩ := rw4 HD0.c
    go_wp2_with fail
    have HU := HD0.put6 (.slice a1 D.l.length c1) (.slice a2 D.waits.length c2) (.int .i64 D.left) (.bool D.down)
    have BU : Below w.heap.size w ((((wT.setCell ⟨w.heap.size + 2, 0, none⟩ (.slice a1 D.l.length c1)).setCell ⟨w.heap.size + 2, 1, none⟩ (.slice a2 D.waits.length c2)).setCell ⟨w.heap.size + 2, 2, none⟩ (.int .i64 D.left)).setCell ⟨w.heap.size + 2, 3, none⟩ (.bool D.down)) := (((BD0.setCell (p := ⟨w.heap.size + 2, 0, none⟩) (by simp) _).setCell (p := ⟨w.heap.size + 2, 1, none⟩) (by simp) _).setCell (p := ⟨w.heap.size + 2, 2, none⟩) (by simp) _).setCell (p := ⟨w.heap.size + 2, 3, none⟩) (by simp) _
    have KU : Kp (fun k => w.heap.size ≤ k ∧ k < w.heap.size + 4) wS ((((wT.setCell ⟨w.heap.size + 2, 0, none⟩ (.slice a1 D.l.length c1)).setCell ⟨w.heap.size + 2, 1, none⟩ (.slice a2 D.waits.length c2)).setCell ⟨w.heap.size + 2, 2, none⟩ (.int .i64 D.left)).setCell ⟨w.heap.size + 2, 3, none⟩ (.bool D.down)) := (Kp.setCell (Kp.setCell (Kp.setCell (Kp.setCell KT (x := ⟨w.heap.size + 2, 0, none⟩) (.inl (by simp only; omega)) _) (x := ⟨w.heap.size + 2, 1, none⟩) (.inl (by simp only; omega)) _) (x := ⟨w.heap.size + 2, 2, none⟩) (.inl (by simp only; omega)) _) (x := ⟨w.heap.size + 2, 3, none⟩) (.inl (by simp only; omega)) _)
    generalize ((((wT.setCell ⟨w.heap.size + 2, 0, none⟩ (.slice a1 D.l.length c1)).setCell ⟨w.heap.size + 2, 1, none⟩ (.slice a2 D.waits.length c2)).setCell ⟨w.heap.size + 2, 2, none⟩ (.int .i64 D.left)).setCell ⟨w.heap.size + 2, 3, none⟩ (.bool D.down)) = wU at *
    refine ⟨⟨HU.a, HU.b⟩, ?_⟩
    clear y0 y1 y2 y3 t0 t1 t2 t3 HD0 BD0 hA KT
    refine NB.s_w 5 rfl (by kernel_rfl) (by kernel_rfl) rfl (fun Q' hK => ?_)
    obtain ⟨y0, y1, y2, y3, y4, y5, t0, t1, t2, t3, t4, t5⟩ := rw6 HU.d
    go_wp2_with fail
    have HV := HU.put7 (.int .i64 (at_ : Int)) (.int .i64 now) (.int .u64 (turn : Int)) (.int .u64 (top : Int)) (.string ⟨b.toArray⟩) (.int .i64 e)
    have BV : Below w.heap.size w ((((((wU.setCell ⟨w.heap.size + 3, 0, none⟩ (.int .i64 (at_ : Int))).setCell ⟨w.heap.size + 3, 1, none⟩ (.int .i64 now)).setCell ⟨w.heap.size + 3, 2, none⟩ (.int .u64 (turn : Int))).setCell ⟨w.heap.size + 3, 3, none⟩ (.int .u64 (top : Int))).setCell ⟨w.heap.size + 3, 4, none⟩ (.string ⟨b.toArray⟩)).setCell ⟨w.heap.size + 3, 5, none⟩ (.int .i64 e)) := (((((BU.setCell (p := ⟨w.heap.size + 3, 0, none⟩) (by simp) _).setCell (p := ⟨w.heap.size + 3, 1, none⟩) (by simp) _).setCell (p := ⟨w.heap.size + 3, 2, none⟩) (by simp) _).setCell (p := ⟨w.heap.size + 3, 3, none⟩) (by simp) _).setCell (p := ⟨w.heap.size + 3, 4, none⟩) (by simp) _).setCell (p := ⟨w.heap.size + 3, 5, none⟩) (by simp) _
    have KV : Kp (fun k => w.heap.size ≤ k ∧ k < w.heap.size + 4) wS ((((((wU.setCell ⟨w.heap.size + 3, 0, none⟩ (.int .i64 (at_ : Int))).setCell ⟨w.heap.size + 3, 1, none⟩ (.int .i64 now)).setCell ⟨w.heap.size + 3, 2, none⟩ (.int .u64 (turn : Int))).setCell ⟨w.heap.size + 3, 3, none⟩ (.int .u64 (top : Int))).setCell ⟨w.heap.size + 3, 4, none⟩ (.string ⟨b.toArray⟩)).setCell ⟨w.heap.size + 3, 5, none⟩ (.int .i64 e)) := (Kp.setCell (Kp.setCell (Kp.setCell (Kp.setCell (Kp.setCell (Kp.setCell KU (x := ⟨w.heap.size + 3, 0, none⟩) (.inl (by simp only; omega)) _) (x := ⟨w.heap.size + 3, 1, none⟩) (.inl (by simp only; omega)) _) (x := ⟨w.heap.size + 3, 2, none⟩) (.inl (by simp only; omega)) _) (x := ⟨w.heap.size + 3, 3, none⟩) (.inl (by simp only; omega)) _) (x := ⟨w.heap.size + 3, 4, none⟩) (.inl (by simp only; omega)) _) (x := ⟨w.heap.size + 3, 5, none⟩) (.inl (by simp only; omega)) _)
    generalize ((((((wU.setCell ⟨w.heap.size + 3, 0, none⟩ (.int .i64 (at_ : Int))).setCell ⟨w.heap.size + 3, 1, none⟩ (.int .i64 now)).setCell ⟨w.heap.size + 3, 2, none⟩ (.int .u64 (turn : Int))).setCell ⟨w.heap.size + 3, 3, none⟩ (.int .u64 (top : Int))).setCell ⟨w.heap.size + 3, 4, none⟩ (.string ⟨b.toArray⟩)).setCell ⟨w.heap.size + 3, 5, none⟩ (.int .i64 e)) = wV at *
    refine ⟨⟨HV.a, HV.b⟩, ?_⟩
    clear y0 y1 y2 y3 y4 y5 t0 t1 t2 t3 t4 t5 HU BU KU
    refine NB.s_p 6 rfl (by kernel_rfl) (fun K hK => ?_); go_simp; refine hK _ ?_; clear hK K
    refine NB.s_end (by kernel_rfl) ?_
    obtain ⟨y0, y1, y2, y3, _, _, _, _⟩ := rw4 HV.c
    obtain ⟨z0, z1, z2, z3, z4, z5, _, _, _, _, _, _⟩ := rw6 HV.d
    have hz6 := HV.c.lt
    have hz7 := HV.d.lt
    go_wp2_with fail
    refine bodyPost_ret (v := .tuple #[rdV a1 D.l.length c1 a2 D.waits.length c2 D.left D.down, cV ⟨at_, now, turn, top, b, e⟩, .int .i64 e]) (by simp [results, Try.results20, go_sem, y0, y1, y2, y3, z0, z1, z2, z3, z4, z5, hz6, hz7, rdV, cV]) rfl ?_

    exact ⟨_, rfl, hsame _ BV, BV, fun k h => .inl h⟩
  subst he
  by_cases ht : top + 1 = 18446744073709551616
  · have hq : (⟨at_, now, turn, top, b, 0⟩ : Ce).set D laidL bs = ((⟨at_, now, turn, top, b, 0⟩, D), 37) := by simp [Ce.set, h43, ht]
    rw [hq]
    have hti : ((top : Int) == 18446744073709551615) = true := by simp; omega
    clear hq ht
    unfold rdV cV strL
    go_enter Try.func20, Try.ntmps20
    go_wp2_with fail
    rw [HWS.out]
    refine NB.wp_region_s [2, 3] (TwoB w.heap.size [.slice a1 D.l.length c1, .slice a2 D.waits.length c2, .int .i64 D.left, .bool D.down] [.int .i64 (at_ : Int), .int .i64 now, .int .u64 (turn : Int), .int .u64 (top : Int), .string ⟨b.toArray⟩, .int .i64 0]) (by kernel_rfl) ?_
    have HD0 := HS.below (Below.refl _ wS).drew
    have BD0 : Below w.heap.size w wS.drew := BS.drew
    have KT := KS.drew
    generalize wS.drew = wT at *
    have hA : TwoB w.heap.size [.slice a1 D.l.length c1, .slice a2 D.waits.length c2, .int .i64 D.left, .bool D.down] [.int .i64 (at_ : Int), .int .i64 now, .int .u64 (turn : Int), .int .u64 (top : Int), .string ⟨b.toArray⟩, .int .i64 0] wT := ⟨HD0.a, HD0.b⟩
    have hst : ∀ x y, TwoB w.heap.size [.slice a1 D.l.length c1, .slice a2 D.waits.length c2, .int .i64 D.left, .bool D.down] [.int .i64 (at_ : Int), .int .i64 now, .int .u64 (turn : Int), .int .u64 (top : Int), .string ⟨b.toArray⟩, .int .i64 0] x → Below x.heap.size x y → TwoB w.heap.size [.slice a1 D.l.length c1, .slice a2 D.waits.length c2, .int .i64 D.left, .bool D.down] [.int .i64 (at_ : Int), .int .i64 now, .int .u64 (turn : Int), .int .u64 (top : Int), .string ⟨b.toArray⟩, .int .i64 0] y := fun x y h hb => ⟨h.a.below hb, h.b.below hb⟩
    refine NB.s_a 0 rfl (by kernel_rfl) rfl _ hA hst (fun w' hw' => NB.run_op_load_agg rfl rfl Try.underlying49 rfl _ _ (0, 0) (hw'.a) (m := 4) (by kernel_rfl) (by simp) _ rfl (Below.refl _ w')) (fun K hK => ?_); go_simp; refine hK _ ?_; clear hK K
    refine NB.s_a 1 rfl (by kernel_rfl) rfl _ hA hst (fun w' hw' => NB.run_op_load_agg rfl rfl Try.underlying53 rfl _ _ (0, 0) (hw'.b) (m := 6) (by kernel_rfl) (by simp) _ rfl (Below.refl _ w')) (fun K hK => ?_); go_simp; refine hK _ ?_; clear hK K
    refine NB.s_w 2 rfl (by kernel_rfl) (by kernel_rfl) rfl (fun Q' hK => ?_)
    obtain ⟨y0, y1, y2, y3, t0, t1, t2, t3⟩ := rw4 HD0.c
    go_wp2_with fail
    have HU := HD0.put6 (.slice a1 D.l.length c1) (.slice a2 D.waits.length c2) (.int .i64 D.left) (.bool D.down)
    have BU : Below w.heap.size w ((((wT.setCell ⟨w.heap.size + 2, 0, none⟩ (.slice a1 D.l.length c1)).setCell ⟨w.heap.size + 2, 1, none⟩ (.slice a2 D.waits.length c2)).setCell ⟨w.heap.size + 2, 2, none⟩ (.int .i64 D.left)).setCell ⟨w.heap.size + 2, 3, none⟩ (.bool D.down)) := (((BD0.setCell (p := ⟨w.heap.size + 2, 0, none⟩) (by simp) _).setCell (p := ⟨w.heap.size + 2, 1, none⟩) (by simp) _).setCell (p := ⟨w.heap.size + 2, 2, none⟩) (by simp) _).setCell (p := ⟨w.heap.size + 2, 3, none⟩) (by simp) _
    have KU : Kp (fun k => w.heap.size ≤ k ∧ k < w.heap.size + 4) wS ((((wT.setCell ⟨w.heap.size + 2, 0, none⟩ (.slice a1 D.l.length c1)).setCell ⟨w.heap.size + 2, 1, none⟩ (.slice a2 D.waits.length c2)).setCell ⟨w.heap.size + 2, 2, none⟩ (.int .i64 D.left)).setCell ⟨w.heap.size + 2, 3, none⟩ (.bool D.down)) := (Kp.setCell (Kp.setCell (Kp.setCell (Kp.setCell KT (x := ⟨w.heap.size + 2, 0, none⟩) (.inl (by simp only; omega)) _) (x := ⟨w.heap.size + 2, 1, none⟩) (.inl (by simp only; omega)) _) (x := ⟨w.heap.size + 2, 2, none⟩) (.inl (by simp only; omega)) _) (x := ⟨w.heap.size + 2, 3, none⟩) (.inl (by simp only; omega)) _)
    generalize ((((wT.setCell ⟨w.heap.size + 2, 0, none⟩ (.slice a1 D.l.length c1)).setCell ⟨w.heap.size + 2, 1, none⟩ (.slice a2 D.waits.length c2)).setCell ⟨w.heap.size + 2, 2, none⟩ (.int .i64 D.left)).setCell ⟨w.heap.size + 2, 3, none⟩ (.bool D.down)) = wU at *
    refine ⟨⟨HU.a, HU.b⟩, ?_⟩
    clear y0 y1 y2 y3 t0 t1 t2 t3 HD0 BD0 hA KT
    refine NB.s_w 3 rfl (by kernel_rfl) (by kernel_rfl) rfl (fun Q' hK => ?_)
    obtain ⟨y0, y1, y2, y3, y4, y5, t0, t1, t2, t3, t4, t5⟩ := rw6 HU.d
    go_wp2_with fail
    have HV := HU.put7 (.int .i64 (at_ : Int)) (.int .i64 now) (.int .u64 (turn : Int)) (.int .u64 (top : Int)) (.string ⟨b.toArray⟩) (.int .i64 0)
    have BV : Below w.heap.size w ((((((wU.setCell ⟨w.heap.size + 3, 0, none⟩ (.int .i64 (at_ : Int))).setCell ⟨w.heap.size + 3, 1, none⟩ (.int .i64 now)).setCell ⟨w.heap.size + 3, 2, none⟩ (.int .u64 (turn : Int))).setCell ⟨w.heap.size + 3, 3, none⟩ (.int .u64 (top : Int))).setCell ⟨w.heap.size + 3, 4, none⟩ (.string ⟨b.toArray⟩)).setCell ⟨w.heap.size + 3, 5, none⟩ (.int .i64 0)) := (((((BU.setCell (p := ⟨w.heap.size + 3, 0, none⟩) (by simp) _).setCell (p := ⟨w.heap.size + 3, 1, none⟩) (by simp) _).setCell (p := ⟨w.heap.size + 3, 2, none⟩) (by simp) _).setCell (p := ⟨w.heap.size + 3, 3, none⟩) (by simp) _).setCell (p := ⟨w.heap.size + 3, 4, none⟩) (by simp) _).setCell (p := ⟨w.heap.size + 3, 5, none⟩) (by simp) _
    have KV : Kp (fun k => w.heap.size ≤ k ∧ k < w.heap.size + 4) wS ((((((wU.setCell ⟨w.heap.size + 3, 0, none⟩ (.int .i64 (at_ : Int))).setCell ⟨w.heap.size + 3, 1, none⟩ (.int .i64 now)).setCell ⟨w.heap.size + 3, 2, none⟩ (.int .u64 (turn : Int))).setCell ⟨w.heap.size + 3, 3, none⟩ (.int .u64 (top : Int))).setCell ⟨w.heap.size + 3, 4, none⟩ (.string ⟨b.toArray⟩)).setCell ⟨w.heap.size + 3, 5, none⟩ (.int .i64 0)) := (Kp.setCell (Kp.setCell (Kp.setCell (Kp.setCell (Kp.setCell (Kp.setCell KU (x := ⟨w.heap.size + 3, 0, none⟩) (.inl (by simp only; omega)) _) (x := ⟨w.heap.size + 3, 1, none⟩) (.inl (by simp only; omega)) _) (x := ⟨w.heap.size + 3, 2, none⟩) (.inl (by simp only; omega)) _) (x := ⟨w.heap.size + 3, 3, none⟩) (.inl (by simp only; omega)) _) (x := ⟨w.heap.size + 3, 4, none⟩) (.inl (by simp only; omega)) _) (x := ⟨w.heap.size + 3, 5, none⟩) (.inl (by simp only; omega)) _)
    generalize ((((((wU.setCell ⟨w.heap.size + 3, 0, none⟩ (.int .i64 (at_ : Int))).setCell ⟨w.heap.size + 3, 1, none⟩ (.int .i64 now)).setCell ⟨w.heap.size + 3, 2, none⟩ (.int .u64 (turn : Int))).setCell ⟨w.heap.size + 3, 3, none⟩ (.int .u64 (top : Int))).setCell ⟨w.heap.size + 3, 4, none⟩ (.string ⟨b.toArray⟩)).setCell ⟨w.heap.size + 3, 5, none⟩ (.int .i64 0)) = wV at *
    refine ⟨⟨HV.a, HV.b⟩, ?_⟩
    clear y0 y1 y2 y3 y4 y5 t0 t1 t2 t3 t4 t5 HU BU KU
    refine NB.s_p 4 rfl (by kernel_rfl) (fun K hK => ?_); go_simp; refine hK _ ?_; clear hK K
    refine NB.s_end (by kernel_rfl) ?_
    obtain ⟨y0, y1, y2, y3, _, _, _, _⟩ := rw4 HV.c
    obtain ⟨z0, z1, z2, z3, z4, z5, _, _, _, _, _, _⟩ := rw6 HV.d
    have hz6 := HV.c.lt
    have hz7 := HV.d.lt
    go_wp2_with fail
    refine bodyPost_ret (v := .tuple #[rdV a1 D.l.length c1 a2 D.waits.length c2 D.left D.down, cV ⟨at_, now, turn, top, b, 0⟩, .int .i64 37]) (by simp [results, Try.results20, go_sem, y0, y1, y2, y3, z0, z1, z2, z3, z4, z5, hz6, hz7, rdV, cV]) rfl ?_

    exact ⟨_, rfl, hsame _ BV, BV, fun k h => .inl h⟩
  have hti : ((top : Int) == 18446744073709551615) = false := by simp; omega
  obtain ⟨T, hT⟩ : ∃ T, top + 1 = T := ⟨_, rfl⟩
  have hTi : (top : Int) + 1 = (T : Int) := by omega
  have hT64 : T < 18446744073709551616 := by omega
  have hwT : IntKind.u64.wrap (T : Int) = (T : Int) := by rw [IntKind.wrap_u64]; omega
  obtain ⟨LL, hLL⟩ : ∃ LL, laidL T bs = LL := ⟨_, rfl⟩
  have hLl : LL.length = 64 := by rw [← hLL]; exact laidL_len T bs (by omega)
  have hrb := fun w => rblock_any w T hT64 bs (by omega)
  rw [hLL] at hrb
  unfold strL at hrb
  have HRB := Go.Lib.hid hrb
  obtain ⟨I, hI⟩ : ∃ I : Nat, (if now = 0 then 1 else 0) = I := ⟨_, rfl⟩
  obtain ⟨N, hN⟩ : ∃ N, at_ + I = N := ⟨_, rfl⟩
  have hwN : IntKind.i64.wrap (N : Int) = (N : Int) := by
    have : I ≤ 1 := by rw [← hI]; split <;> omega
    rw [IntKind.wrap_i64]; omega
  have hI1 : I ≤ 1 := by rw [← hI]; split <;> omega
  have hq : (⟨at_, now, turn, top, b, 0⟩ : Ce).set D laidL bs = (let r := D.write ((N : Nat) : Int) LL
      if r.2 ≠ 0 then ((⟨at_, now, turn, top, b, r.2⟩, r.1), r.2)
      else
        let s := r.1.sync
        if s.2 ≠ 0 then ((⟨at_, now, turn, top, b, s.2⟩, s.1), s.2)
        else ((⟨at_, (I : Int), T, T, bs, 0⟩, s.1), 0)) := by
    have ht' : ¬ T = 18446744073709551616 := by omega
    simp only [Ce.set, h43, hT, ht', if_false, hI, hN, hLL, ne_eq, not_true_eq_false]
  obtain ⟨D1, e1, hE⟩ : ∃ D1 e1, D.write ((N : Nat) : Int) LL = (D1, e1) := ⟨_, _, rfl⟩
  have hw1 := write_ok D ((N : Nat) : Int) LL (fun x hx => (hw64 x hx).2)
  have hwl := write_l D ((N : Nat) : Int) LL
  have hwn := NB.Dk.write_waits D ((N : Nat) : Int) LL
  have hwlf := write_left D ((N : Nat) : Int) LL hl hl2
  have hrw := fun w' h' => rwriteR w' (rdV a1 D.l.length c1 a2 D.waits.length c2 D.left D.down) D ((N : Nat) : Int) LL h' hl hl2 (by omega) (by omega)
  rw [hE] at hw1 hwl hwn hwlf hrw hq
  simp only at hw1 hwl hwn hwlf hq
  have HRW := Go.Lib.hid hrw
  have HQ := Go.Lib.hid hq
  have HSAME := Go.Lib.hid hsame
  have HW1 := Go.Lib.hid hw1
  have HWL := Go.Lib.hid hwl
  clear hwl
  clear hq hrw hE hw1 ht hT hLL hsame hw64 hrb hti
  have hti : ((top : Int) == 18446744073709551615) = false := by simp; omega
  generalize hR : (⟨at_, now, turn, top, b, 0⟩ : Ce).set D laidL bs = R at *
  clear hR
  rcases hnow with rfl | hnow
  · obtain rfl : I = 0 := by rw [← hI]; rfl
    have hNa : at_ = N := by omega
    subst hNa
    clear hI hI1
    unfold rdV cV strL
    go_enter Try.func20, Try.ntmps20
    go_wp2_with fail
    rw [HWS.out]
    refine NB.wp_region_t [14] (by kernel_rfl) ?_
    have HD0 := HS.below (Below.refl _ wS).drew
    have BD0 : Below w.heap.size w wS.drew := BS.drew
    clear KS
    generalize wS.drew = wT at *
    have m0 := HD0.b.cell 0 _ rfl
    have m3 := HD0.b.cell 3 _ rfl
    refine NB.t_r 0 [10, 11, 12, 13, 14, 15] rfl (by kernel_rfl) (by kernel_rfl) rfl _ (fun w' hw' => NB.run_op_load_agg rfl rfl Try.underlying49 rfl _ _ (0, 0) (HD0.a) (m := 4) (by kernel_rfl) (by simp) _ rfl hw') (fun K hK => ?_); go_simp; refine hK _ ?_; clear hK K
    refine NB.t_p 1 rfl (by kernel_rfl) (fun K hK => ?_); go_simp; refine hK _ ?_; clear hK K
    refine NB.t_r 2 [4, 10, 11, 12, 13, 14, 15] rfl (by kernel_rfl) (by kernel_rfl) rfl _ (fun w' hw' => NB.run_op_load rfl rfl Try.underlying3 rfl (m0) hw') (fun K hK => ?_); go_simp; refine hK _ ?_; clear hK K
    refine NB.t_p 3 rfl (by kernel_rfl) (fun K hK => ?_); go_simp; refine hK _ ?_; clear hK K
    refine NB.t_p 4 rfl (by kernel_rfl) (fun K hK => ?_); go_simp; refine hK _ ?_; clear hK K
    refine NB.t_p 5 rfl (by kernel_rfl) (fun K hK => ?_); go_simp; refine hK _ ?_; clear hK K
    refine NB.t_r 6 [7, 9, 10, 11, 12, 13, 14, 15] rfl (by kernel_rfl) (by kernel_rfl) rfl _ (fun w' hw' => NB.run_op_load rfl rfl Try.underlying33 rfl (m3) hw') (fun K hK => ?_); go_simp; refine hK _ ?_; clear hK K
    refine NB.t_p 7 rfl (by kernel_rfl) (fun K hK => ?_); go_simp; refine hK _ ?_; clear hK K
    refine NB.t_p 8 rfl (by kernel_rfl) (fun K hK => ?_); go_simp; refine hK _ ?_; clear hK K
    refine NB.t_e 9 rfl (by kernel_rfl) (by kernel_rfl) (fun K hK => ?_); unfold NB.tmoves; go_simp; refine (HRB.out _).mono ?_; rintro e5 w5 ⟨rfl, hb5⟩; refine ⟨_, rfl, hb5, hK _ _ ?_⟩; clear hK K
    have H5 := HD0.below hb5
    have B5 := bel BD0 hb5 BD0.size
    have hrw := HRW.out w5 (HSAME.out w5 B5)
    unfold rdV strL at hrw
    refine NB.t_e 10 rfl (by kernel_rfl) (by kernel_rfl) (fun K hK => ?_); unfold NB.tmoves; go_simp; refine hrw.mono ?_; rintro e6 w6 ⟨v6, rfl, hr6, hb6, hl6⟩; refine ⟨_, rfl, hb6, hK _ _ ?_⟩; clear hK K
    have H6 := H5.below hb6
    have B6 := bel B5 hb6 B5.size
    have hr60 := hr6
    obtain ⟨p1, d1, p2, d2, rfl, _, _⟩ := hr60
    clear hrw
    unfold rdV
    refine NB.t_p 11 rfl (by kernel_rfl) (fun K hK => ?_); go_simp; refine hK _ ?_; clear hK K
    refine NB.t_p 12 rfl (by kernel_rfl) (fun K hK => ?_); go_simp; refine hK _ ?_; clear hK K
    refine NB.t_p 13 rfl (by kernel_rfl) (fun K hK => ?_); go_simp; refine hK _ ?_; clear hK K
    refine NB.t_w 14 rfl (by kernel_rfl) (by kernel_rfl) rfl (fun Q' hK => ?_)
    obtain ⟨y0, y1, y2, y3, t0, t1, t2, t3⟩ := rw4 H6.a
    go_wp2_with fail
    have H7 := H6.put3 (.slice p1 D1.l.length d1) (.slice p2 D1.waits.length d2) (.int .i64 D1.left) (.bool D1.down)
    have B7 : Below w.heap.size w ((((w6.setCell ⟨w.heap.size, 0, none⟩ (.slice p1 D1.l.length d1)).setCell ⟨w.heap.size, 1, none⟩ (.slice p2 D1.waits.length d2)).setCell ⟨w.heap.size, 2, none⟩ (.int .i64 D1.left)).setCell ⟨w.heap.size, 3, none⟩ (.bool D1.down)) := (((B6.setCell (p := ⟨w.heap.size, 0, none⟩) (Nat.le_refl _) _).setCell (p := ⟨w.heap.size, 1, none⟩) (Nat.le_refl _) _).setCell (p := ⟨w.heap.size, 2, none⟩) (Nat.le_refl _) _).setCell (p := ⟨w.heap.size, 3, none⟩) (Nat.le_refl _) _
    have K7 : Kp (fun k => w.heap.size ≤ k ∧ k < w.heap.size + 4) w6 ((((w6.setCell ⟨w.heap.size, 0, none⟩ (.slice p1 D1.l.length d1)).setCell ⟨w.heap.size, 1, none⟩ (.slice p2 D1.waits.length d2)).setCell ⟨w.heap.size, 2, none⟩ (.int .i64 D1.left)).setCell ⟨w.heap.size, 3, none⟩ (.bool D1.down)) := (Kp.setCell (Kp.setCell (Kp.setCell (Kp.setCell (Kp.refl _ w6) (x := ⟨w.heap.size, 0, none⟩) (.inl (by simp only; omega)) _) (x := ⟨w.heap.size, 1, none⟩) (.inl (by simp only; omega)) _) (x := ⟨w.heap.size, 2, none⟩) (.inl (by simp only; omega)) _) (x := ⟨w.heap.size, 3, none⟩) (.inl (by simp only; omega)) _)
    generalize ((((w6.setCell ⟨w.heap.size, 0, none⟩ (.slice p1 D1.l.length d1)).setCell ⟨w.heap.size, 1, none⟩ (.slice p2 D1.waits.length d2)).setCell ⟨w.heap.size, 2, none⟩ (.int .i64 D1.left)).setCell ⟨w.heap.size, 3, none⟩ (.bool D1.down)) = w7 at *
    refine NB.t_p 15 rfl (by kernel_rfl) (fun K hK => ?_); go_simp; refine hK _ ?_; clear hK K
    refine NB.t_end (by kernel_rfl) ?_
    have hsz := H7.d.lt
    have hloc6 : ∀ k, locR (rdV p1 D1.l.length d1 p2 D1.waits.length d2 D1.left D1.down) k → ¬ (w.heap.size ≤ k ∧ k < w.heap.size + 4) := fun k hk hq => by
      rcases hl6 k hk with h | h
      · have := HLOW.out k h; omega
      · have := H5.d.lt; omega
    have hl0 : ∀ k, locR (rdV p1 D1.l.length d1 p2 D1.waits.length d2 D1.left D1.down) k → locR (rdV a1 D.l.length c1 a2 D.waits.length c2 D.left D.down) k ∨ w.heap.size ≤ k := fun k hk => (hl6 k hk).imp id (fun h => Nat.le_trans B5.size h)
    have HLOC6 := Go.Lib.hid hloc6
    have HL0 := Go.Lib.hid hl0
    clear y0 y1 y2 y3 t0 t1 t2 t3 m0 m3 hloc6 hl0
    by_cases he1 : e1 = 0
    case neg =>
      have heb1 : (e1 == 0) = false := by simpa using he1
      have hne1 : (e1 != 0) = true := by simpa using he1
      have HRS := HQ.out
      rw [if_pos he1] at HRS
      have HR := Go.Lib.hid HRS
      clear HRS he1
      obtain ⟨y0, y1, y2, y3, y4, y5, t0, t1, t2, t3, t4, t5⟩ := rw6 H7.b
      go_wp2_with fail
      have HS' : FourB w.heap.size [.slice p1 D1.l.length d1, .slice p2 D1.waits.length d2, .int .i64 D1.left, .bool D1.down] [.int .i64 (at_ : Int), .int .i64 (-1), .int .u64 (turn : Int), .int .u64 (top : Int), .string ⟨b.toArray⟩, .int .i64 e1] [.slice none 0 0, .slice none 0 0, .int .i64 0, .bool false] [.int .i64 0, .int .i64 0, .int .u64 0, .int .u64 0, .string ⟨#[]⟩, .int .i64 0] (w7.setCell ⟨w.heap.size + 1, 5, none⟩ (.int .i64 e1)) := H7.set4 5 (.int .i64 e1)
      have BS' : Below w.heap.size w (w7.setCell ⟨w.heap.size + 1, 5, none⟩ (.int .i64 e1)) := B7.setCell (p := ⟨w.heap.size + 1, 5, none⟩) (by simp) _
      have KS' : Kp (fun k => w.heap.size ≤ k ∧ k < w.heap.size + 4) w6 (w7.setCell ⟨w.heap.size + 1, 5, none⟩ (.int .i64 e1)) := Kp.setCell K7 (x := ⟨w.heap.size + 1, 5, none⟩) (.inl (by simp only; omega)) _
      clear y0 y1 y2 y3 y4 y5 t0 t1 t2 t3 t4 t5
      generalize w7.setCell ⟨w.heap.size + 1, 5, none⟩ (.int .i64 e1) = wX at *
      refine NB.wp_region_s [3, 4] (TwoB w.heap.size [.slice p1 D1.l.length d1, .slice p2 D1.waits.length d2, .int .i64 D1.left, .bool D1.down] [.int .i64 (at_ : Int), .int .i64 (-1), .int .u64 (turn : Int), .int .u64 (top : Int), .string ⟨b.toArray⟩, .int .i64 e1]) (by kernel_rfl) ?_
      have HD0 := HS'.below (Below.refl _ wX).drew
      have BD0 : Below w.heap.size w wX.drew := BS'.drew
      have KT := KS'.drew
      generalize wX.drew = wT at *
      have hA : TwoB w.heap.size [.slice p1 D1.l.length d1, .slice p2 D1.waits.length d2, .int .i64 D1.left, .bool D1.down] [.int .i64 (at_ : Int), .int .i64 (-1), .int .u64 (turn : Int), .int .u64 (top : Int), .string ⟨b.toArray⟩, .int .i64 e1] wT := ⟨HD0.a, HD0.b⟩
      have hst : ∀ x y, TwoB w.heap.size [.slice p1 D1.l.length d1, .slice p2 D1.waits.length d2, .int .i64 D1.left, .bool D1.down] [.int .i64 (at_ : Int), .int .i64 (-1), .int .u64 (turn : Int), .int .u64 (top : Int), .string ⟨b.toArray⟩, .int .i64 e1] x → Below x.heap.size x y → TwoB w.heap.size [.slice p1 D1.l.length d1, .slice p2 D1.waits.length d2, .int .i64 D1.left, .bool D1.down] [.int .i64 (at_ : Int), .int .i64 (-1), .int .u64 (turn : Int), .int .u64 (top : Int), .string ⟨b.toArray⟩, .int .i64 e1] y := fun x y h hb => ⟨h.a.below hb, h.b.below hb⟩
      refine NB.s_a 0 rfl (by kernel_rfl) rfl _ hA hst (fun w' hw' => NB.run_op_load_agg rfl rfl Try.underlying49 rfl _ _ (0, 0) (hw'.a) (m := 4) (by kernel_rfl) (by simp) _ rfl (Below.refl _ w')) (fun K hK => ?_); go_simp; refine hK _ ?_; clear hK K
      refine NB.s_a 1 rfl (by kernel_rfl) rfl _ hA hst (fun w' hw' => NB.run_op_load_agg rfl rfl Try.underlying53 rfl _ _ (0, 0) (hw'.b) (m := 6) (by kernel_rfl) (by simp) _ rfl (Below.refl _ w')) (fun K hK => ?_); go_simp; refine hK _ ?_; clear hK K
      refine NB.s_p 2 rfl (by kernel_rfl) (fun K hK => ?_); go_simp; refine hK _ ?_; clear hK K
      refine NB.s_w 3 rfl (by kernel_rfl) (by kernel_rfl) rfl (fun Q' hK => ?_)
      obtain ⟨y0, y1, y2, y3, t0, t1, t2, t3⟩ := rw4 HD0.c
      go_wp2_with fail
      have HU := HD0.put6 (.slice p1 D1.l.length d1) (.slice p2 D1.waits.length d2) (.int .i64 D1.left) (.bool D1.down)
      have BU : Below w.heap.size w ((((wT.setCell ⟨w.heap.size + 2, 0, none⟩ (.slice p1 D1.l.length d1)).setCell ⟨w.heap.size + 2, 1, none⟩ (.slice p2 D1.waits.length d2)).setCell ⟨w.heap.size + 2, 2, none⟩ (.int .i64 D1.left)).setCell ⟨w.heap.size + 2, 3, none⟩ (.bool D1.down)) := (((BD0.setCell (p := ⟨w.heap.size + 2, 0, none⟩) (by simp) _).setCell (p := ⟨w.heap.size + 2, 1, none⟩) (by simp) _).setCell (p := ⟨w.heap.size + 2, 2, none⟩) (by simp) _).setCell (p := ⟨w.heap.size + 2, 3, none⟩) (by simp) _
      have KU : Kp (fun k => w.heap.size ≤ k ∧ k < w.heap.size + 4) w6 ((((wT.setCell ⟨w.heap.size + 2, 0, none⟩ (.slice p1 D1.l.length d1)).setCell ⟨w.heap.size + 2, 1, none⟩ (.slice p2 D1.waits.length d2)).setCell ⟨w.heap.size + 2, 2, none⟩ (.int .i64 D1.left)).setCell ⟨w.heap.size + 2, 3, none⟩ (.bool D1.down)) := (Kp.setCell (Kp.setCell (Kp.setCell (Kp.setCell KT (x := ⟨w.heap.size + 2, 0, none⟩) (.inl (by simp only; omega)) _) (x := ⟨w.heap.size + 2, 1, none⟩) (.inl (by simp only; omega)) _) (x := ⟨w.heap.size + 2, 2, none⟩) (.inl (by simp only; omega)) _) (x := ⟨w.heap.size + 2, 3, none⟩) (.inl (by simp only; omega)) _)
      generalize ((((wT.setCell ⟨w.heap.size + 2, 0, none⟩ (.slice p1 D1.l.length d1)).setCell ⟨w.heap.size + 2, 1, none⟩ (.slice p2 D1.waits.length d2)).setCell ⟨w.heap.size + 2, 2, none⟩ (.int .i64 D1.left)).setCell ⟨w.heap.size + 2, 3, none⟩ (.bool D1.down)) = wU at *
      refine ⟨⟨HU.a, HU.b⟩, ?_⟩
      clear y0 y1 y2 y3 t0 t1 t2 t3 HD0 BD0 hA KT
      refine NB.s_w 4 rfl (by kernel_rfl) (by kernel_rfl) rfl (fun Q' hK => ?_)
      obtain ⟨y0, y1, y2, y3, y4, y5, t0, t1, t2, t3, t4, t5⟩ := rw6 HU.d
      go_wp2_with fail
      have HV := HU.put7 (.int .i64 (at_ : Int)) (.int .i64 (-1)) (.int .u64 (turn : Int)) (.int .u64 (top : Int)) (.string ⟨b.toArray⟩) (.int .i64 e1)
      have BV : Below w.heap.size w ((((((wU.setCell ⟨w.heap.size + 3, 0, none⟩ (.int .i64 (at_ : Int))).setCell ⟨w.heap.size + 3, 1, none⟩ (.int .i64 (-1))).setCell ⟨w.heap.size + 3, 2, none⟩ (.int .u64 (turn : Int))).setCell ⟨w.heap.size + 3, 3, none⟩ (.int .u64 (top : Int))).setCell ⟨w.heap.size + 3, 4, none⟩ (.string ⟨b.toArray⟩)).setCell ⟨w.heap.size + 3, 5, none⟩ (.int .i64 e1)) := (((((BU.setCell (p := ⟨w.heap.size + 3, 0, none⟩) (by simp) _).setCell (p := ⟨w.heap.size + 3, 1, none⟩) (by simp) _).setCell (p := ⟨w.heap.size + 3, 2, none⟩) (by simp) _).setCell (p := ⟨w.heap.size + 3, 3, none⟩) (by simp) _).setCell (p := ⟨w.heap.size + 3, 4, none⟩) (by simp) _).setCell (p := ⟨w.heap.size + 3, 5, none⟩) (by simp) _
      have KV : Kp (fun k => w.heap.size ≤ k ∧ k < w.heap.size + 4) w6 ((((((wU.setCell ⟨w.heap.size + 3, 0, none⟩ (.int .i64 (at_ : Int))).setCell ⟨w.heap.size + 3, 1, none⟩ (.int .i64 (-1))).setCell ⟨w.heap.size + 3, 2, none⟩ (.int .u64 (turn : Int))).setCell ⟨w.heap.size + 3, 3, none⟩ (.int .u64 (top : Int))).setCell ⟨w.heap.size + 3, 4, none⟩ (.string ⟨b.toArray⟩)).setCell ⟨w.heap.size + 3, 5, none⟩ (.int .i64 e1)) := (Kp.setCell (Kp.setCell (Kp.setCell (Kp.setCell (Kp.setCell (Kp.setCell KU (x := ⟨w.heap.size + 3, 0, none⟩) (.inl (by simp only; omega)) _) (x := ⟨w.heap.size + 3, 1, none⟩) (.inl (by simp only; omega)) _) (x := ⟨w.heap.size + 3, 2, none⟩) (.inl (by simp only; omega)) _) (x := ⟨w.heap.size + 3, 3, none⟩) (.inl (by simp only; omega)) _) (x := ⟨w.heap.size + 3, 4, none⟩) (.inl (by simp only; omega)) _) (x := ⟨w.heap.size + 3, 5, none⟩) (.inl (by simp only; omega)) _)
      generalize ((((((wU.setCell ⟨w.heap.size + 3, 0, none⟩ (.int .i64 (at_ : Int))).setCell ⟨w.heap.size + 3, 1, none⟩ (.int .i64 (-1))).setCell ⟨w.heap.size + 3, 2, none⟩ (.int .u64 (turn : Int))).setCell ⟨w.heap.size + 3, 3, none⟩ (.int .u64 (top : Int))).setCell ⟨w.heap.size + 3, 4, none⟩ (.string ⟨b.toArray⟩)).setCell ⟨w.heap.size + 3, 5, none⟩ (.int .i64 e1)) = wV at *
      refine ⟨⟨HV.a, HV.b⟩, ?_⟩
      clear y0 y1 y2 y3 y4 y5 t0 t1 t2 t3 t4 t5 HU BU KU
      refine NB.s_p 5 rfl (by kernel_rfl) (fun K hK => ?_); go_simp; refine hK _ ?_; clear hK K
      refine NB.s_end (by kernel_rfl) ?_
      obtain ⟨y0, y1, y2, y3, _, _, _, _⟩ := rw4 HV.c
      obtain ⟨z0, z1, z2, z3, z4, z5, _, _, _, _, _, _⟩ := rw6 HV.d
      have hz6 := HV.c.lt
      have hz7 := HV.d.lt
      go_wp2_with fail
      refine bodyPost_ret (v := .tuple #[rdV p1 D1.l.length d1 p2 D1.waits.length d2 D1.left D1.down, cV ⟨at_, (-1), turn, top, b, e1⟩, .int .i64 e1]) (by simp [results, Try.results20, go_sem, y0, y1, y2, y3, z0, z1, z2, z3, z4, z5, hz6, hz7, rdV, cV]) rfl ?_
      rw [HR.out]
      exact ⟨_, rfl, hr6.keep KV HLOC6.out, BV, HL0.out⟩
    subst he1
    obtain ⟨D2, e2, hE2⟩ : ∃ D2 e2, D1.sync = (D2, e2) := ⟨_, _, rfl⟩
    have hr7 := hr6.keep K7 HLOC6.out
    have hrs := rsync_any w7 _ D1 hr7 hwlf.1 hwlf.2 (by rw [HWL.out]; exact hln) (by omega) HW1.out
    rw [hE2] at hrs
    unfold rdV at hrs
    have HRSY := Go.Lib.hid hrs
    have HQ2 : Hid (R = if e2 ≠ 0 then ((⟨at_, (-1), turn, top, b, e2⟩, D2), e2) else ((⟨at_, ((0 : Nat) : Int), T, T, bs, 0⟩, D2), 0)) := Go.Lib.hid (by have h := HQ.out; rw [if_neg (by simp)] at h; rw [hE2] at h; exact h)
    clear hrs hE2 HQ
    obtain ⟨y0, y1, y2, y3, _, _, _, _⟩ := rw4 H7.a
    go_wp2_with fail
    go_at_call 39
    refine HRSY.out.mono ?_
    rintro e8 w8 ⟨v8, rfl, hr8, hb8, hl8⟩
    have H8 := H7.below hb8
    have B8 := bel B7 hb8 B7.size
    have hr80 := hr8
    obtain ⟨q1, f1, q2, f2, rfl, _, _⟩ := hr80
    clear y0 y1 y2 y3
    obtain ⟨y0, y1, y2, y3, t0, t1, t2, t3⟩ := rw4 H8.a
    have H9 := H8.put3 (.slice q1 D2.l.length f1) (.slice q2 D2.waits.length f2) (.int .i64 D2.left) (.bool D2.down)
    have B9 : Below w.heap.size w ((((w8.setCell ⟨w.heap.size, 0, none⟩ (.slice q1 D2.l.length f1)).setCell ⟨w.heap.size, 1, none⟩ (.slice q2 D2.waits.length f2)).setCell ⟨w.heap.size, 2, none⟩ (.int .i64 D2.left)).setCell ⟨w.heap.size, 3, none⟩ (.bool D2.down)) := (((B8.setCell (p := ⟨w.heap.size, 0, none⟩) (Nat.le_refl _) _).setCell (p := ⟨w.heap.size, 1, none⟩) (Nat.le_refl _) _).setCell (p := ⟨w.heap.size, 2, none⟩) (Nat.le_refl _) _).setCell (p := ⟨w.heap.size, 3, none⟩) (Nat.le_refl _) _
    have K9 : Kp (fun k => w.heap.size ≤ k ∧ k < w.heap.size + 4) w8 ((((w8.setCell ⟨w.heap.size, 0, none⟩ (.slice q1 D2.l.length f1)).setCell ⟨w.heap.size, 1, none⟩ (.slice q2 D2.waits.length f2)).setCell ⟨w.heap.size, 2, none⟩ (.int .i64 D2.left)).setCell ⟨w.heap.size, 3, none⟩ (.bool D2.down)) := (Kp.setCell (Kp.setCell (Kp.setCell (Kp.setCell (Kp.refl _ w8) (x := ⟨w.heap.size, 0, none⟩) (.inl (by simp only; omega)) _) (x := ⟨w.heap.size, 1, none⟩) (.inl (by simp only; omega)) _) (x := ⟨w.heap.size, 2, none⟩) (.inl (by simp only; omega)) _) (x := ⟨w.heap.size, 3, none⟩) (.inl (by simp only; omega)) _)
    have hloc8 : ∀ k, locR (rdV q1 D2.l.length f1 q2 D2.waits.length f2 D2.left D2.down) k → ¬ (w.heap.size ≤ k ∧ k < w.heap.size + 4) := fun k hk hq => by
      rcases hl8 k hk with h | h
      · exact HLOC6.out k h hq
      · have := H7.d.lt; omega
    have hl0 : ∀ k, locR (rdV q1 D2.l.length f1 q2 D2.waits.length f2 D2.left D2.down) k → locR (rdV a1 D.l.length c1 a2 D.waits.length c2 D.left D.down) k ∨ w.heap.size ≤ k := fun k hk => (hl8 k hk).elim (HL0.out k) (fun h => .inr (Nat.le_trans B7.size h))
    have HLOC8 := Go.Lib.hid hloc8
    have HL8 := Go.Lib.hid hl0
    clear hloc8 hl0
    unfold rdV
    by_cases he2 : e2 = 0
    case neg =>
      have heb2 : (e2 == 0) = false := by simpa using he2
      have hne2 : (e2 != 0) = true := by simpa using he2
      have HRS := HQ2.out
      rw [if_pos he2] at HRS
      have HR := Go.Lib.hid HRS
      clear HRS he2
      obtain ⟨n0, n1, n2, n3, n4, n5, s0, s1, s2, s3, s4, s5⟩ := rw6 H8.b
      go_wp2_with fail
      generalize ((((w8.setCell ⟨w.heap.size, 0, none⟩ (.slice q1 D2.l.length f1)).setCell ⟨w.heap.size, 1, none⟩ (.slice q2 D2.waits.length f2)).setCell ⟨w.heap.size, 2, none⟩ (.int .i64 D2.left)).setCell ⟨w.heap.size, 3, none⟩ (.bool D2.down)) = w9 at *
      have HS' : FourB w.heap.size [.slice q1 D2.l.length f1, .slice q2 D2.waits.length f2, .int .i64 D2.left, .bool D2.down] [.int .i64 (at_ : Int), .int .i64 (-1), .int .u64 (turn : Int), .int .u64 (top : Int), .string ⟨b.toArray⟩, .int .i64 e2] [.slice none 0 0, .slice none 0 0, .int .i64 0, .bool false] [.int .i64 0, .int .i64 0, .int .u64 0, .int .u64 0, .string ⟨#[]⟩, .int .i64 0] (w9.setCell ⟨w.heap.size + 1, 5, none⟩ (.int .i64 e2)) := H9.set4 5 (.int .i64 e2)
      have BS' : Below w.heap.size w (w9.setCell ⟨w.heap.size + 1, 5, none⟩ (.int .i64 e2)) := B9.setCell (p := ⟨w.heap.size + 1, 5, none⟩) (by simp) _
      have KS' : Kp (fun k => w.heap.size ≤ k ∧ k < w.heap.size + 4) w8 (w9.setCell ⟨w.heap.size + 1, 5, none⟩ (.int .i64 e2)) := Kp.setCell K9 (x := ⟨w.heap.size + 1, 5, none⟩) (.inl (by simp only; omega)) _
      clear y0 y1 y2 y3 t0 t1 t2 t3 n0 n1 n2 n3 n4 n5 s0 s1 s2 s3 s4 s5
      generalize w9.setCell ⟨w.heap.size + 1, 5, none⟩ (.int .i64 e2) = wX at *
      refine NB.wp_region_s [3, 4] (TwoB w.heap.size [.slice q1 D2.l.length f1, .slice q2 D2.waits.length f2, .int .i64 D2.left, .bool D2.down] [.int .i64 (at_ : Int), .int .i64 (-1), .int .u64 (turn : Int), .int .u64 (top : Int), .string ⟨b.toArray⟩, .int .i64 e2]) (by kernel_rfl) ?_
      have HD0 := HS'.below (Below.refl _ wX).drew
      have BD0 : Below w.heap.size w wX.drew := BS'.drew
      have KT := KS'.drew
      generalize wX.drew = wT at *
      have hA : TwoB w.heap.size [.slice q1 D2.l.length f1, .slice q2 D2.waits.length f2, .int .i64 D2.left, .bool D2.down] [.int .i64 (at_ : Int), .int .i64 (-1), .int .u64 (turn : Int), .int .u64 (top : Int), .string ⟨b.toArray⟩, .int .i64 e2] wT := ⟨HD0.a, HD0.b⟩
      have hst : ∀ x y, TwoB w.heap.size [.slice q1 D2.l.length f1, .slice q2 D2.waits.length f2, .int .i64 D2.left, .bool D2.down] [.int .i64 (at_ : Int), .int .i64 (-1), .int .u64 (turn : Int), .int .u64 (top : Int), .string ⟨b.toArray⟩, .int .i64 e2] x → Below x.heap.size x y → TwoB w.heap.size [.slice q1 D2.l.length f1, .slice q2 D2.waits.length f2, .int .i64 D2.left, .bool D2.down] [.int .i64 (at_ : Int), .int .i64 (-1), .int .u64 (turn : Int), .int .u64 (top : Int), .string ⟨b.toArray⟩, .int .i64 e2] y := fun x y h hb => ⟨h.a.below hb, h.b.below hb⟩
      refine NB.s_a 0 rfl (by kernel_rfl) rfl _ hA hst (fun w' hw' => NB.run_op_load_agg rfl rfl Try.underlying49 rfl _ _ (0, 0) (hw'.a) (m := 4) (by kernel_rfl) (by simp) _ rfl (Below.refl _ w')) (fun K hK => ?_); go_simp; refine hK _ ?_; clear hK K
      refine NB.s_a 1 rfl (by kernel_rfl) rfl _ hA hst (fun w' hw' => NB.run_op_load_agg rfl rfl Try.underlying53 rfl _ _ (0, 0) (hw'.b) (m := 6) (by kernel_rfl) (by simp) _ rfl (Below.refl _ w')) (fun K hK => ?_); go_simp; refine hK _ ?_; clear hK K
      refine NB.s_p 2 rfl (by kernel_rfl) (fun K hK => ?_); go_simp; refine hK _ ?_; clear hK K
      refine NB.s_w 3 rfl (by kernel_rfl) (by kernel_rfl) rfl (fun Q' hK => ?_)
      obtain ⟨y0, y1, y2, y3, t0, t1, t2, t3⟩ := rw4 HD0.c
      go_wp2_with fail
      have HU := HD0.put6 (.slice q1 D2.l.length f1) (.slice q2 D2.waits.length f2) (.int .i64 D2.left) (.bool D2.down)
      have BU : Below w.heap.size w ((((wT.setCell ⟨w.heap.size + 2, 0, none⟩ (.slice q1 D2.l.length f1)).setCell ⟨w.heap.size + 2, 1, none⟩ (.slice q2 D2.waits.length f2)).setCell ⟨w.heap.size + 2, 2, none⟩ (.int .i64 D2.left)).setCell ⟨w.heap.size + 2, 3, none⟩ (.bool D2.down)) := (((BD0.setCell (p := ⟨w.heap.size + 2, 0, none⟩) (by simp) _).setCell (p := ⟨w.heap.size + 2, 1, none⟩) (by simp) _).setCell (p := ⟨w.heap.size + 2, 2, none⟩) (by simp) _).setCell (p := ⟨w.heap.size + 2, 3, none⟩) (by simp) _
      have KU : Kp (fun k => w.heap.size ≤ k ∧ k < w.heap.size + 4) w8 ((((wT.setCell ⟨w.heap.size + 2, 0, none⟩ (.slice q1 D2.l.length f1)).setCell ⟨w.heap.size + 2, 1, none⟩ (.slice q2 D2.waits.length f2)).setCell ⟨w.heap.size + 2, 2, none⟩ (.int .i64 D2.left)).setCell ⟨w.heap.size + 2, 3, none⟩ (.bool D2.down)) := (Kp.setCell (Kp.setCell (Kp.setCell (Kp.setCell KT (x := ⟨w.heap.size + 2, 0, none⟩) (.inl (by simp only; omega)) _) (x := ⟨w.heap.size + 2, 1, none⟩) (.inl (by simp only; omega)) _) (x := ⟨w.heap.size + 2, 2, none⟩) (.inl (by simp only; omega)) _) (x := ⟨w.heap.size + 2, 3, none⟩) (.inl (by simp only; omega)) _)
      generalize ((((wT.setCell ⟨w.heap.size + 2, 0, none⟩ (.slice q1 D2.l.length f1)).setCell ⟨w.heap.size + 2, 1, none⟩ (.slice q2 D2.waits.length f2)).setCell ⟨w.heap.size + 2, 2, none⟩ (.int .i64 D2.left)).setCell ⟨w.heap.size + 2, 3, none⟩ (.bool D2.down)) = wU at *
      refine ⟨⟨HU.a, HU.b⟩, ?_⟩
      clear y0 y1 y2 y3 t0 t1 t2 t3 HD0 BD0 hA KT
      refine NB.s_w 4 rfl (by kernel_rfl) (by kernel_rfl) rfl (fun Q' hK => ?_)
      obtain ⟨y0, y1, y2, y3, y4, y5, t0, t1, t2, t3, t4, t5⟩ := rw6 HU.d
      go_wp2_with fail
      have HV := HU.put7 (.int .i64 (at_ : Int)) (.int .i64 (-1)) (.int .u64 (turn : Int)) (.int .u64 (top : Int)) (.string ⟨b.toArray⟩) (.int .i64 e2)
      have BV : Below w.heap.size w ((((((wU.setCell ⟨w.heap.size + 3, 0, none⟩ (.int .i64 (at_ : Int))).setCell ⟨w.heap.size + 3, 1, none⟩ (.int .i64 (-1))).setCell ⟨w.heap.size + 3, 2, none⟩ (.int .u64 (turn : Int))).setCell ⟨w.heap.size + 3, 3, none⟩ (.int .u64 (top : Int))).setCell ⟨w.heap.size + 3, 4, none⟩ (.string ⟨b.toArray⟩)).setCell ⟨w.heap.size + 3, 5, none⟩ (.int .i64 e2)) := (((((BU.setCell (p := ⟨w.heap.size + 3, 0, none⟩) (by simp) _).setCell (p := ⟨w.heap.size + 3, 1, none⟩) (by simp) _).setCell (p := ⟨w.heap.size + 3, 2, none⟩) (by simp) _).setCell (p := ⟨w.heap.size + 3, 3, none⟩) (by simp) _).setCell (p := ⟨w.heap.size + 3, 4, none⟩) (by simp) _).setCell (p := ⟨w.heap.size + 3, 5, none⟩) (by simp) _
      have KV : Kp (fun k => w.heap.size ≤ k ∧ k < w.heap.size + 4) w8 ((((((wU.setCell ⟨w.heap.size + 3, 0, none⟩ (.int .i64 (at_ : Int))).setCell ⟨w.heap.size + 3, 1, none⟩ (.int .i64 (-1))).setCell ⟨w.heap.size + 3, 2, none⟩ (.int .u64 (turn : Int))).setCell ⟨w.heap.size + 3, 3, none⟩ (.int .u64 (top : Int))).setCell ⟨w.heap.size + 3, 4, none⟩ (.string ⟨b.toArray⟩)).setCell ⟨w.heap.size + 3, 5, none⟩ (.int .i64 e2)) := (Kp.setCell (Kp.setCell (Kp.setCell (Kp.setCell (Kp.setCell (Kp.setCell KU (x := ⟨w.heap.size + 3, 0, none⟩) (.inl (by simp only; omega)) _) (x := ⟨w.heap.size + 3, 1, none⟩) (.inl (by simp only; omega)) _) (x := ⟨w.heap.size + 3, 2, none⟩) (.inl (by simp only; omega)) _) (x := ⟨w.heap.size + 3, 3, none⟩) (.inl (by simp only; omega)) _) (x := ⟨w.heap.size + 3, 4, none⟩) (.inl (by simp only; omega)) _) (x := ⟨w.heap.size + 3, 5, none⟩) (.inl (by simp only; omega)) _)
      generalize ((((((wU.setCell ⟨w.heap.size + 3, 0, none⟩ (.int .i64 (at_ : Int))).setCell ⟨w.heap.size + 3, 1, none⟩ (.int .i64 (-1))).setCell ⟨w.heap.size + 3, 2, none⟩ (.int .u64 (turn : Int))).setCell ⟨w.heap.size + 3, 3, none⟩ (.int .u64 (top : Int))).setCell ⟨w.heap.size + 3, 4, none⟩ (.string ⟨b.toArray⟩)).setCell ⟨w.heap.size + 3, 5, none⟩ (.int .i64 e2)) = wV at *
      refine ⟨⟨HV.a, HV.b⟩, ?_⟩
      clear y0 y1 y2 y3 y4 y5 t0 t1 t2 t3 t4 t5 HU BU KU
      refine NB.s_p 5 rfl (by kernel_rfl) (fun K hK => ?_); go_simp; refine hK _ ?_; clear hK K
      refine NB.s_end (by kernel_rfl) ?_
      obtain ⟨y0, y1, y2, y3, _, _, _, _⟩ := rw4 HV.c
      obtain ⟨z0, z1, z2, z3, z4, z5, _, _, _, _, _, _⟩ := rw6 HV.d
      have hz6 := HV.c.lt
      have hz7 := HV.d.lt
      go_wp2_with fail
      refine bodyPost_ret (v := .tuple #[rdV q1 D2.l.length f1 q2 D2.waits.length f2 D2.left D2.down, cV ⟨at_, (-1), turn, top, b, e2⟩, .int .i64 e2]) (by simp [results, Try.results20, go_sem, y0, y1, y2, y3, z0, z1, z2, z3, z4, z5, hz6, hz7, rdV, cV]) rfl ?_
      rw [HR.out]
      exact ⟨_, rfl, hr8.keep KV HLOC8.out, BV, HL8.out⟩
    subst he2
    have HRS := HQ2.out
    rw [if_neg (by simp)] at HRS
    have HR := Go.Lib.hid HRS
    clear HRS
    go_wp2_with fail
    generalize ((((w8.setCell ⟨w.heap.size, 0, none⟩ (.slice q1 D2.l.length f1)).setCell ⟨w.heap.size, 1, none⟩ (.slice q2 D2.waits.length f2)).setCell ⟨w.heap.size, 2, none⟩ (.int .i64 D2.left)).setCell ⟨w.heap.size, 3, none⟩ (.bool D2.down)) = w9 at *
    clear y0 y1 y2 y3 t0 t1 t2 t3
    refine NB.wp_region_s [12, 13] (TwoB w.heap.size [.slice q1 D2.l.length f1, .slice q2 D2.waits.length f2, .int .i64 D2.left, .bool D2.down] [.int .i64 (at_ : Int), .int .i64 (-1), .int .u64 (turn : Int), .int .u64 (top : Int), .string ⟨b.toArray⟩, .int .i64 0]) (by kernel_rfl) ?_
    have HD0 := H9.below (Below.refl _ w9).drew
    have BD0 : Below w.heap.size w w9.drew := B9.drew
    have KT := K9.drew
    generalize w9.drew = wT at *
    have hA : TwoB w.heap.size [.slice q1 D2.l.length f1, .slice q2 D2.waits.length f2, .int .i64 D2.left, .bool D2.down] [.int .i64 (at_ : Int), .int .i64 (-1), .int .u64 (turn : Int), .int .u64 (top : Int), .string ⟨b.toArray⟩, .int .i64 0] wT := ⟨HD0.a, HD0.b⟩
    have hst : ∀ x y, TwoB w.heap.size [.slice q1 D2.l.length f1, .slice q2 D2.waits.length f2, .int .i64 D2.left, .bool D2.down] [.int .i64 (at_ : Int), .int .i64 (-1), .int .u64 (turn : Int), .int .u64 (top : Int), .string ⟨b.toArray⟩, .int .i64 0] x → Below x.heap.size x y → TwoB w.heap.size [.slice q1 D2.l.length f1, .slice q2 D2.waits.length f2, .int .i64 D2.left, .bool D2.down] [.int .i64 (at_ : Int), .int .i64 (-1), .int .u64 (turn : Int), .int .u64 (top : Int), .string ⟨b.toArray⟩, .int .i64 0] y := fun x y h hb => ⟨h.a.below hb, h.b.below hb⟩
    refine NB.s_a 0 rfl (by kernel_rfl) rfl _ hA hst (fun w' hw' => NB.run_op_load_agg rfl rfl Try.underlying49 rfl _ _ (0, 0) (hw'.a) (m := 4) (by kernel_rfl) (by simp) _ rfl (Below.refl _ w')) (fun K hK => ?_); go_simp; refine hK _ ?_; clear hK K
    refine NB.s_p 1 rfl (by kernel_rfl) (fun K hK => ?_); go_simp; refine hK _ ?_; clear hK K
    refine NB.s_a 2 rfl (by kernel_rfl) rfl _ hA hst (fun w' hw' => NB.run_op_load rfl rfl Try.underlying3 rfl (hw'.b.cell 0 _ rfl) (Below.refl _ w')) (fun K hK => ?_); go_simp; refine hK _ ?_; clear hK K
    refine NB.s_p 3 rfl (by kernel_rfl) (fun K hK => ?_); go_simp; refine hK _ ?_; clear hK K
    refine NB.s_p 4 rfl (by kernel_rfl) (fun K hK => ?_); go_simp; refine hK _ ?_; clear hK K
    refine NB.s_a 5 rfl (by kernel_rfl) rfl _ hA hst (fun w' hw' => NB.run_op_load rfl rfl Try.underlying33 rfl (hw'.b.cell 3 _ rfl) (Below.refl _ w')) (fun K hK => ?_); go_simp; refine hK _ ?_; clear hK K
    refine NB.s_p 6 rfl (by kernel_rfl) (fun K hK => ?_); go_simp; refine hK _ ?_; clear hK K
    refine NB.s_p 7 rfl (by kernel_rfl) (fun K hK => ?_); go_simp; refine hK _ ?_; clear hK K
    refine NB.s_a 8 rfl (by kernel_rfl) rfl _ hA hst (fun w' hw' => NB.run_op_load rfl rfl Try.underlying33 rfl (hw'.b.cell 3 _ rfl) (Below.refl _ w')) (fun K hK => ?_); go_simp; refine hK _ ?_; clear hK K
    refine NB.s_p 9 rfl (by kernel_rfl) (fun K hK => ?_); go_simp; refine hK _ ?_; clear hK K
    refine NB.s_p 10 rfl (by kernel_rfl) (fun K hK => ?_); go_simp; refine hK _ ?_; clear hK K
    refine NB.s_p 11 rfl (by kernel_rfl) (fun K hK => ?_); go_simp; refine hK _ ?_; clear hK K
    refine NB.s_w 12 rfl (by kernel_rfl) (by kernel_rfl) rfl (fun Q' hK => ?_)
    obtain ⟨y0, y1, y2, y3, t0, t1, t2, t3⟩ := rw4 HD0.c
    go_wp2_with fail
    have HU := HD0.put6 (.slice q1 D2.l.length f1) (.slice q2 D2.waits.length f2) (.int .i64 D2.left) (.bool D2.down)
    have BU : Below w.heap.size w ((((wT.setCell ⟨w.heap.size + 2, 0, none⟩ (.slice q1 D2.l.length f1)).setCell ⟨w.heap.size + 2, 1, none⟩ (.slice q2 D2.waits.length f2)).setCell ⟨w.heap.size + 2, 2, none⟩ (.int .i64 D2.left)).setCell ⟨w.heap.size + 2, 3, none⟩ (.bool D2.down)) := (((BD0.setCell (p := ⟨w.heap.size + 2, 0, none⟩) (by simp) _).setCell (p := ⟨w.heap.size + 2, 1, none⟩) (by simp) _).setCell (p := ⟨w.heap.size + 2, 2, none⟩) (by simp) _).setCell (p := ⟨w.heap.size + 2, 3, none⟩) (by simp) _
    have KU : Kp (fun k => w.heap.size ≤ k ∧ k < w.heap.size + 4) w8 ((((wT.setCell ⟨w.heap.size + 2, 0, none⟩ (.slice q1 D2.l.length f1)).setCell ⟨w.heap.size + 2, 1, none⟩ (.slice q2 D2.waits.length f2)).setCell ⟨w.heap.size + 2, 2, none⟩ (.int .i64 D2.left)).setCell ⟨w.heap.size + 2, 3, none⟩ (.bool D2.down)) := (Kp.setCell (Kp.setCell (Kp.setCell (Kp.setCell KT (x := ⟨w.heap.size + 2, 0, none⟩) (.inl (by simp only; omega)) _) (x := ⟨w.heap.size + 2, 1, none⟩) (.inl (by simp only; omega)) _) (x := ⟨w.heap.size + 2, 2, none⟩) (.inl (by simp only; omega)) _) (x := ⟨w.heap.size + 2, 3, none⟩) (.inl (by simp only; omega)) _)
    generalize ((((wT.setCell ⟨w.heap.size + 2, 0, none⟩ (.slice q1 D2.l.length f1)).setCell ⟨w.heap.size + 2, 1, none⟩ (.slice q2 D2.waits.length f2)).setCell ⟨w.heap.size + 2, 2, none⟩ (.int .i64 D2.left)).setCell ⟨w.heap.size + 2, 3, none⟩ (.bool D2.down)) = wU at *
    refine ⟨⟨HU.a, HU.b⟩, ?_⟩
    clear y0 y1 y2 y3 t0 t1 t2 t3 HD0 BD0 hA KT
    refine NB.s_w 13 rfl (by kernel_rfl) (by kernel_rfl) rfl (fun Q' hK => ?_)
    obtain ⟨y0, y1, y2, y3, y4, y5, t0, t1, t2, t3, t4, t5⟩ := rw6 HU.d
    go_wp2_with fail
    have HV := HU.put7 (.int .i64 (at_ : Int)) (.int .i64 0) (.int .u64 (T : Int)) (.int .u64 (T : Int)) (.string ⟨bs.toArray⟩) (.int .i64 0)
    have BV : Below w.heap.size w ((((((wU.setCell ⟨w.heap.size + 3, 0, none⟩ (.int .i64 (at_ : Int))).setCell ⟨w.heap.size + 3, 1, none⟩ (.int .i64 0)).setCell ⟨w.heap.size + 3, 2, none⟩ (.int .u64 (T : Int))).setCell ⟨w.heap.size + 3, 3, none⟩ (.int .u64 (T : Int))).setCell ⟨w.heap.size + 3, 4, none⟩ (.string ⟨bs.toArray⟩)).setCell ⟨w.heap.size + 3, 5, none⟩ (.int .i64 0)) := (((((BU.setCell (p := ⟨w.heap.size + 3, 0, none⟩) (by simp) _).setCell (p := ⟨w.heap.size + 3, 1, none⟩) (by simp) _).setCell (p := ⟨w.heap.size + 3, 2, none⟩) (by simp) _).setCell (p := ⟨w.heap.size + 3, 3, none⟩) (by simp) _).setCell (p := ⟨w.heap.size + 3, 4, none⟩) (by simp) _).setCell (p := ⟨w.heap.size + 3, 5, none⟩) (by simp) _
    have KV : Kp (fun k => w.heap.size ≤ k ∧ k < w.heap.size + 4) w8 ((((((wU.setCell ⟨w.heap.size + 3, 0, none⟩ (.int .i64 (at_ : Int))).setCell ⟨w.heap.size + 3, 1, none⟩ (.int .i64 0)).setCell ⟨w.heap.size + 3, 2, none⟩ (.int .u64 (T : Int))).setCell ⟨w.heap.size + 3, 3, none⟩ (.int .u64 (T : Int))).setCell ⟨w.heap.size + 3, 4, none⟩ (.string ⟨bs.toArray⟩)).setCell ⟨w.heap.size + 3, 5, none⟩ (.int .i64 0)) := (Kp.setCell (Kp.setCell (Kp.setCell (Kp.setCell (Kp.setCell (Kp.setCell KU (x := ⟨w.heap.size + 3, 0, none⟩) (.inl (by simp only; omega)) _) (x := ⟨w.heap.size + 3, 1, none⟩) (.inl (by simp only; omega)) _) (x := ⟨w.heap.size + 3, 2, none⟩) (.inl (by simp only; omega)) _) (x := ⟨w.heap.size + 3, 3, none⟩) (.inl (by simp only; omega)) _) (x := ⟨w.heap.size + 3, 4, none⟩) (.inl (by simp only; omega)) _) (x := ⟨w.heap.size + 3, 5, none⟩) (.inl (by simp only; omega)) _)
    generalize ((((((wU.setCell ⟨w.heap.size + 3, 0, none⟩ (.int .i64 (at_ : Int))).setCell ⟨w.heap.size + 3, 1, none⟩ (.int .i64 0)).setCell ⟨w.heap.size + 3, 2, none⟩ (.int .u64 (T : Int))).setCell ⟨w.heap.size + 3, 3, none⟩ (.int .u64 (T : Int))).setCell ⟨w.heap.size + 3, 4, none⟩ (.string ⟨bs.toArray⟩)).setCell ⟨w.heap.size + 3, 5, none⟩ (.int .i64 0)) = wV at *
    refine ⟨⟨HV.a, HV.b⟩, ?_⟩
    clear y0 y1 y2 y3 y4 y5 t0 t1 t2 t3 t4 t5 HU BU KU
    refine NB.s_p 14 rfl (by kernel_rfl) (fun K hK => ?_); go_simp; refine hK _ ?_; clear hK K
    refine NB.s_end (by kernel_rfl) ?_
    obtain ⟨y0, y1, y2, y3, _, _, _, _⟩ := rw4 HV.c
    obtain ⟨z0, z1, z2, z3, z4, z5, _, _, _, _, _, _⟩ := rw6 HV.d
    have hz6 := HV.c.lt
    have hz7 := HV.d.lt
    go_wp2_with fail
    refine bodyPost_ret (v := .tuple #[rdV q1 D2.l.length f1 q2 D2.waits.length f2 D2.left D2.down, cV ⟨at_, ((0 : Nat) : Int), T, T, bs, 0⟩, .int .i64 0]) (by simp [results, Try.results20, go_sem, y0, y1, y2, y3, z0, z1, z2, z3, z4, z5, hz6, hz7, rdV, cV]) rfl ?_

    rw [HR.out]
    exact ⟨_, rfl, hr8.keep KV HLOC8.out, BV, HL8.out⟩
  · have hnn : ¬ now < 0 := by omega
    have hIi : (1 : Int) - now = (I : Int) := by rw [← hI]; rcases hnow with rfl | rfl <;> rfl
    have hNi : (at_ : Int) + (I : Int) = (N : Int) := by omega
    clear hI hN
    unfold rdV cV strL
    go_enter Try.func20, Try.ntmps20
    go_wp2_with fail
    rw [HWS.out]
    refine NB.wp_region_t [14] (by kernel_rfl) ?_
    have HD0 := HS.below (Below.refl _ wS).drew
    have BD0 : Below w.heap.size w wS.drew := BS.drew
    clear KS
    generalize wS.drew = wT at *
    have m0 := HD0.b.cell 0 _ rfl
    have m3 := HD0.b.cell 3 _ rfl
    refine NB.t_r 0 [10, 11, 12, 13, 14, 15] rfl (by kernel_rfl) (by kernel_rfl) rfl _ (fun w' hw' => NB.run_op_load_agg rfl rfl Try.underlying49 rfl _ _ (0, 0) (HD0.a) (m := 4) (by kernel_rfl) (by simp) _ rfl hw') (fun K hK => ?_); go_simp; refine hK _ ?_; clear hK K
    refine NB.t_p 1 rfl (by kernel_rfl) (fun K hK => ?_); go_simp; refine hK _ ?_; clear hK K
    refine NB.t_r 2 [4, 10, 11, 12, 13, 14, 15] rfl (by kernel_rfl) (by kernel_rfl) rfl _ (fun w' hw' => NB.run_op_load rfl rfl Try.underlying3 rfl (m0) hw') (fun K hK => ?_); go_simp; refine hK _ ?_; clear hK K
    refine NB.t_p 3 rfl (by kernel_rfl) (fun K hK => ?_); go_simp; refine hK _ ?_; clear hK K
    refine NB.t_p 4 rfl (by kernel_rfl) (fun K hK => ?_); go_simp; refine hK _ ?_; clear hK K
    refine NB.t_p 5 rfl (by kernel_rfl) (fun K hK => ?_); go_simp; refine hK _ ?_; clear hK K
    refine NB.t_r 6 [7, 9, 10, 11, 12, 13, 14, 15] rfl (by kernel_rfl) (by kernel_rfl) rfl _ (fun w' hw' => NB.run_op_load rfl rfl Try.underlying33 rfl (m3) hw') (fun K hK => ?_); go_simp; refine hK _ ?_; clear hK K
    refine NB.t_p 7 rfl (by kernel_rfl) (fun K hK => ?_); go_simp; refine hK _ ?_; clear hK K
    refine NB.t_p 8 rfl (by kernel_rfl) (fun K hK => ?_); go_simp; refine hK _ ?_; clear hK K
    refine NB.t_e 9 rfl (by kernel_rfl) (by kernel_rfl) (fun K hK => ?_); unfold NB.tmoves; go_simp; refine (HRB.out _).mono ?_; rintro e5 w5 ⟨rfl, hb5⟩; refine ⟨_, rfl, hb5, hK _ _ ?_⟩; clear hK K
    have H5 := HD0.below hb5
    have B5 := bel BD0 hb5 BD0.size
    have hrw := HRW.out w5 (HSAME.out w5 B5)
    unfold rdV strL at hrw
    refine NB.t_e 10 rfl (by kernel_rfl) (by kernel_rfl) (fun K hK => ?_); unfold NB.tmoves; go_simp; refine hrw.mono ?_; rintro e6 w6 ⟨v6, rfl, hr6, hb6, hl6⟩; refine ⟨_, rfl, hb6, hK _ _ ?_⟩; clear hK K
    have H6 := H5.below hb6
    have B6 := bel B5 hb6 B5.size
    have hr60 := hr6
    obtain ⟨p1, d1, p2, d2, rfl, _, _⟩ := hr60
    clear hrw
    unfold rdV
    refine NB.t_p 11 rfl (by kernel_rfl) (fun K hK => ?_); go_simp; refine hK _ ?_; clear hK K
    refine NB.t_p 12 rfl (by kernel_rfl) (fun K hK => ?_); go_simp; refine hK _ ?_; clear hK K
    refine NB.t_p 13 rfl (by kernel_rfl) (fun K hK => ?_); go_simp; refine hK _ ?_; clear hK K
    refine NB.t_w 14 rfl (by kernel_rfl) (by kernel_rfl) rfl (fun Q' hK => ?_)
    obtain ⟨y0, y1, y2, y3, t0, t1, t2, t3⟩ := rw4 H6.a
    go_wp2_with fail
    have H7 := H6.put3 (.slice p1 D1.l.length d1) (.slice p2 D1.waits.length d2) (.int .i64 D1.left) (.bool D1.down)
    have B7 : Below w.heap.size w ((((w6.setCell ⟨w.heap.size, 0, none⟩ (.slice p1 D1.l.length d1)).setCell ⟨w.heap.size, 1, none⟩ (.slice p2 D1.waits.length d2)).setCell ⟨w.heap.size, 2, none⟩ (.int .i64 D1.left)).setCell ⟨w.heap.size, 3, none⟩ (.bool D1.down)) := (((B6.setCell (p := ⟨w.heap.size, 0, none⟩) (Nat.le_refl _) _).setCell (p := ⟨w.heap.size, 1, none⟩) (Nat.le_refl _) _).setCell (p := ⟨w.heap.size, 2, none⟩) (Nat.le_refl _) _).setCell (p := ⟨w.heap.size, 3, none⟩) (Nat.le_refl _) _
    have K7 : Kp (fun k => w.heap.size ≤ k ∧ k < w.heap.size + 4) w6 ((((w6.setCell ⟨w.heap.size, 0, none⟩ (.slice p1 D1.l.length d1)).setCell ⟨w.heap.size, 1, none⟩ (.slice p2 D1.waits.length d2)).setCell ⟨w.heap.size, 2, none⟩ (.int .i64 D1.left)).setCell ⟨w.heap.size, 3, none⟩ (.bool D1.down)) := (Kp.setCell (Kp.setCell (Kp.setCell (Kp.setCell (Kp.refl _ w6) (x := ⟨w.heap.size, 0, none⟩) (.inl (by simp only; omega)) _) (x := ⟨w.heap.size, 1, none⟩) (.inl (by simp only; omega)) _) (x := ⟨w.heap.size, 2, none⟩) (.inl (by simp only; omega)) _) (x := ⟨w.heap.size, 3, none⟩) (.inl (by simp only; omega)) _)
    generalize ((((w6.setCell ⟨w.heap.size, 0, none⟩ (.slice p1 D1.l.length d1)).setCell ⟨w.heap.size, 1, none⟩ (.slice p2 D1.waits.length d2)).setCell ⟨w.heap.size, 2, none⟩ (.int .i64 D1.left)).setCell ⟨w.heap.size, 3, none⟩ (.bool D1.down)) = w7 at *
    refine NB.t_p 15 rfl (by kernel_rfl) (fun K hK => ?_); go_simp; refine hK _ ?_; clear hK K
    refine NB.t_end (by kernel_rfl) ?_
    have hsz := H7.d.lt
    have hloc6 : ∀ k, locR (rdV p1 D1.l.length d1 p2 D1.waits.length d2 D1.left D1.down) k → ¬ (w.heap.size ≤ k ∧ k < w.heap.size + 4) := fun k hk hq => by
      rcases hl6 k hk with h | h
      · have := HLOW.out k h; omega
      · have := H5.d.lt; omega
    have hl0 : ∀ k, locR (rdV p1 D1.l.length d1 p2 D1.waits.length d2 D1.left D1.down) k → locR (rdV a1 D.l.length c1 a2 D.waits.length c2 D.left D.down) k ∨ w.heap.size ≤ k := fun k hk => (hl6 k hk).imp id (fun h => Nat.le_trans B5.size h)
    have HLOC6 := Go.Lib.hid hloc6
    have HL0 := Go.Lib.hid hl0
    clear y0 y1 y2 y3 t0 t1 t2 t3 m0 m3 hloc6 hl0
    by_cases he1 : e1 = 0
    case neg =>
      have heb1 : (e1 == 0) = false := by simpa using he1
      have hne1 : (e1 != 0) = true := by simpa using he1
      have HRS := HQ.out
      rw [if_pos he1] at HRS
      have HR := Go.Lib.hid HRS
      clear HRS he1
      obtain ⟨y0, y1, y2, y3, y4, y5, t0, t1, t2, t3, t4, t5⟩ := rw6 H7.b
      go_wp2_with fail
      have HS' : FourB w.heap.size [.slice p1 D1.l.length d1, .slice p2 D1.waits.length d2, .int .i64 D1.left, .bool D1.down] [.int .i64 (at_ : Int), .int .i64 now, .int .u64 (turn : Int), .int .u64 (top : Int), .string ⟨b.toArray⟩, .int .i64 e1] [.slice none 0 0, .slice none 0 0, .int .i64 0, .bool false] [.int .i64 0, .int .i64 0, .int .u64 0, .int .u64 0, .string ⟨#[]⟩, .int .i64 0] (w7.setCell ⟨w.heap.size + 1, 5, none⟩ (.int .i64 e1)) := H7.set4 5 (.int .i64 e1)
      have BS' : Below w.heap.size w (w7.setCell ⟨w.heap.size + 1, 5, none⟩ (.int .i64 e1)) := B7.setCell (p := ⟨w.heap.size + 1, 5, none⟩) (by simp) _
      have KS' : Kp (fun k => w.heap.size ≤ k ∧ k < w.heap.size + 4) w6 (w7.setCell ⟨w.heap.size + 1, 5, none⟩ (.int .i64 e1)) := Kp.setCell K7 (x := ⟨w.heap.size + 1, 5, none⟩) (.inl (by simp only; omega)) _
      clear y0 y1 y2 y3 y4 y5 t0 t1 t2 t3 t4 t5
      generalize w7.setCell ⟨w.heap.size + 1, 5, none⟩ (.int .i64 e1) = wX at *
      refine NB.wp_region_s [3, 4] (TwoB w.heap.size [.slice p1 D1.l.length d1, .slice p2 D1.waits.length d2, .int .i64 D1.left, .bool D1.down] [.int .i64 (at_ : Int), .int .i64 now, .int .u64 (turn : Int), .int .u64 (top : Int), .string ⟨b.toArray⟩, .int .i64 e1]) (by kernel_rfl) ?_
      have HD0 := HS'.below (Below.refl _ wX).drew
      have BD0 : Below w.heap.size w wX.drew := BS'.drew
      have KT := KS'.drew
      generalize wX.drew = wT at *
      have hA : TwoB w.heap.size [.slice p1 D1.l.length d1, .slice p2 D1.waits.length d2, .int .i64 D1.left, .bool D1.down] [.int .i64 (at_ : Int), .int .i64 now, .int .u64 (turn : Int), .int .u64 (top : Int), .string ⟨b.toArray⟩, .int .i64 e1] wT := ⟨HD0.a, HD0.b⟩
      have hst : ∀ x y, TwoB w.heap.size [.slice p1 D1.l.length d1, .slice p2 D1.waits.length d2, .int .i64 D1.left, .bool D1.down] [.int .i64 (at_ : Int), .int .i64 now, .int .u64 (turn : Int), .int .u64 (top : Int), .string ⟨b.toArray⟩, .int .i64 e1] x → Below x.heap.size x y → TwoB w.heap.size [.slice p1 D1.l.length d1, .slice p2 D1.waits.length d2, .int .i64 D1.left, .bool D1.down] [.int .i64 (at_ : Int), .int .i64 now, .int .u64 (turn : Int), .int .u64 (top : Int), .string ⟨b.toArray⟩, .int .i64 e1] y := fun x y h hb => ⟨h.a.below hb, h.b.below hb⟩
      refine NB.s_a 0 rfl (by kernel_rfl) rfl _ hA hst (fun w' hw' => NB.run_op_load_agg rfl rfl Try.underlying49 rfl _ _ (0, 0) (hw'.a) (m := 4) (by kernel_rfl) (by simp) _ rfl (Below.refl _ w')) (fun K hK => ?_); go_simp; refine hK _ ?_; clear hK K
      refine NB.s_a 1 rfl (by kernel_rfl) rfl _ hA hst (fun w' hw' => NB.run_op_load_agg rfl rfl Try.underlying53 rfl _ _ (0, 0) (hw'.b) (m := 6) (by kernel_rfl) (by simp) _ rfl (Below.refl _ w')) (fun K hK => ?_); go_simp; refine hK _ ?_; clear hK K
      refine NB.s_p 2 rfl (by kernel_rfl) (fun K hK => ?_); go_simp; refine hK _ ?_; clear hK K
      refine NB.s_w 3 rfl (by kernel_rfl) (by kernel_rfl) rfl (fun Q' hK => ?_)
      obtain ⟨y0, y1, y2, y3, t0, t1, t2, t3⟩ := rw4 HD0.c
      go_wp2_with fail
      have HU := HD0.put6 (.slice p1 D1.l.length d1) (.slice p2 D1.waits.length d2) (.int .i64 D1.left) (.bool D1.down)
      have BU : Below w.heap.size w ((((wT.setCell ⟨w.heap.size + 2, 0, none⟩ (.slice p1 D1.l.length d1)).setCell ⟨w.heap.size + 2, 1, none⟩ (.slice p2 D1.waits.length d2)).setCell ⟨w.heap.size + 2, 2, none⟩ (.int .i64 D1.left)).setCell ⟨w.heap.size + 2, 3, none⟩ (.bool D1.down)) := (((BD0.setCell (p := ⟨w.heap.size + 2, 0, none⟩) (by simp) _).setCell (p := ⟨w.heap.size + 2, 1, none⟩) (by simp) _).setCell (p := ⟨w.heap.size + 2, 2, none⟩) (by simp) _).setCell (p := ⟨w.heap.size + 2, 3, none⟩) (by simp) _
      have KU : Kp (fun k => w.heap.size ≤ k ∧ k < w.heap.size + 4) w6 ((((wT.setCell ⟨w.heap.size + 2, 0, none⟩ (.slice p1 D1.l.length d1)).setCell ⟨w.heap.size + 2, 1, none⟩ (.slice p2 D1.waits.length d2)).setCell ⟨w.heap.size + 2, 2, none⟩ (.int .i64 D1.left)).setCell ⟨w.heap.size + 2, 3, none⟩ (.bool D1.down)) := (Kp.setCell (Kp.setCell (Kp.setCell (Kp.setCell KT (x := ⟨w.heap.size + 2, 0, none⟩) (.inl (by simp only; omega)) _) (x := ⟨w.heap.size + 2, 1, none⟩) (.inl (by simp only; omega)) _) (x := ⟨w.heap.size + 2, 2, none⟩) (.inl (by simp only; omega)) _) (x := ⟨w.heap.size + 2, 3, none⟩) (.inl (by simp only; omega)) _)
      generalize ((((wT.setCell ⟨w.heap.size + 2, 0, none⟩ (.slice p1 D1.l.length d1)).setCell ⟨w.heap.size + 2, 1, none⟩ (.slice p2 D1.waits.length d2)).setCell ⟨w.heap.size + 2, 2, none⟩ (.int .i64 D1.left)).setCell ⟨w.heap.size + 2, 3, none⟩ (.bool D1.down)) = wU at *
      refine ⟨⟨HU.a, HU.b⟩, ?_⟩
      clear y0 y1 y2 y3 t0 t1 t2 t3 HD0 BD0 hA KT
      refine NB.s_w 4 rfl (by kernel_rfl) (by kernel_rfl) rfl (fun Q' hK => ?_)
      obtain ⟨y0, y1, y2, y3, y4, y5, t0, t1, t2, t3, t4, t5⟩ := rw6 HU.d
      go_wp2_with fail
      have HV := HU.put7 (.int .i64 (at_ : Int)) (.int .i64 now) (.int .u64 (turn : Int)) (.int .u64 (top : Int)) (.string ⟨b.toArray⟩) (.int .i64 e1)
      have BV : Below w.heap.size w ((((((wU.setCell ⟨w.heap.size + 3, 0, none⟩ (.int .i64 (at_ : Int))).setCell ⟨w.heap.size + 3, 1, none⟩ (.int .i64 now)).setCell ⟨w.heap.size + 3, 2, none⟩ (.int .u64 (turn : Int))).setCell ⟨w.heap.size + 3, 3, none⟩ (.int .u64 (top : Int))).setCell ⟨w.heap.size + 3, 4, none⟩ (.string ⟨b.toArray⟩)).setCell ⟨w.heap.size + 3, 5, none⟩ (.int .i64 e1)) := (((((BU.setCell (p := ⟨w.heap.size + 3, 0, none⟩) (by simp) _).setCell (p := ⟨w.heap.size + 3, 1, none⟩) (by simp) _).setCell (p := ⟨w.heap.size + 3, 2, none⟩) (by simp) _).setCell (p := ⟨w.heap.size + 3, 3, none⟩) (by simp) _).setCell (p := ⟨w.heap.size + 3, 4, none⟩) (by simp) _).setCell (p := ⟨w.heap.size + 3, 5, none⟩) (by simp) _
      have KV : Kp (fun k => w.heap.size ≤ k ∧ k < w.heap.size + 4) w6 ((((((wU.setCell ⟨w.heap.size + 3, 0, none⟩ (.int .i64 (at_ : Int))).setCell ⟨w.heap.size + 3, 1, none⟩ (.int .i64 now)).setCell ⟨w.heap.size + 3, 2, none⟩ (.int .u64 (turn : Int))).setCell ⟨w.heap.size + 3, 3, none⟩ (.int .u64 (top : Int))).setCell ⟨w.heap.size + 3, 4, none⟩ (.string ⟨b.toArray⟩)).setCell ⟨w.heap.size + 3, 5, none⟩ (.int .i64 e1)) := (Kp.setCell (Kp.setCell (Kp.setCell (Kp.setCell (Kp.setCell (Kp.setCell KU (x := ⟨w.heap.size + 3, 0, none⟩) (.inl (by simp only; omega)) _) (x := ⟨w.heap.size + 3, 1, none⟩) (.inl (by simp only; omega)) _) (x := ⟨w.heap.size + 3, 2, none⟩) (.inl (by simp only; omega)) _) (x := ⟨w.heap.size + 3, 3, none⟩) (.inl (by simp only; omega)) _) (x := ⟨w.heap.size + 3, 4, none⟩) (.inl (by simp only; omega)) _) (x := ⟨w.heap.size + 3, 5, none⟩) (.inl (by simp only; omega)) _)
      generalize ((((((wU.setCell ⟨w.heap.size + 3, 0, none⟩ (.int .i64 (at_ : Int))).setCell ⟨w.heap.size + 3, 1, none⟩ (.int .i64 now)).setCell ⟨w.heap.size + 3, 2, none⟩ (.int .u64 (turn : Int))).setCell ⟨w.heap.size + 3, 3, none⟩ (.int .u64 (top : Int))).setCell ⟨w.heap.size + 3, 4, none⟩ (.string ⟨b.toArray⟩)).setCell ⟨w.heap.size + 3, 5, none⟩ (.int .i64 e1)) = wV at *
      refine ⟨⟨HV.a, HV.b⟩, ?_⟩
      clear y0 y1 y2 y3 y4 y5 t0 t1 t2 t3 t4 t5 HU BU KU
      refine NB.s_p 5 rfl (by kernel_rfl) (fun K hK => ?_); go_simp; refine hK _ ?_; clear hK K
      refine NB.s_end (by kernel_rfl) ?_
      obtain ⟨y0, y1, y2, y3, _, _, _, _⟩ := rw4 HV.c
      obtain ⟨z0, z1, z2, z3, z4, z5, _, _, _, _, _, _⟩ := rw6 HV.d
      have hz6 := HV.c.lt
      have hz7 := HV.d.lt
      go_wp2_with fail
      refine bodyPost_ret (v := .tuple #[rdV p1 D1.l.length d1 p2 D1.waits.length d2 D1.left D1.down, cV ⟨at_, now, turn, top, b, e1⟩, .int .i64 e1]) (by simp [results, Try.results20, go_sem, y0, y1, y2, y3, z0, z1, z2, z3, z4, z5, hz6, hz7, rdV, cV]) rfl ?_
      rw [HR.out]
      exact ⟨_, rfl, hr6.keep KV HLOC6.out, BV, HL0.out⟩
    subst he1
    obtain ⟨D2, e2, hE2⟩ : ∃ D2 e2, D1.sync = (D2, e2) := ⟨_, _, rfl⟩
    have hr7 := hr6.keep K7 HLOC6.out
    have hrs := rsync_any w7 _ D1 hr7 hwlf.1 hwlf.2 (by rw [HWL.out]; exact hln) (by omega) HW1.out
    rw [hE2] at hrs
    unfold rdV at hrs
    have HRSY := Go.Lib.hid hrs
    have HQ2 : Hid (R = if e2 ≠ 0 then ((⟨at_, now, turn, top, b, e2⟩, D2), e2) else ((⟨at_, (I : Int), T, T, bs, 0⟩, D2), 0)) := Go.Lib.hid (by have h := HQ.out; rw [if_neg (by simp)] at h; rw [hE2] at h; exact h)
    clear hrs hE2 HQ
    obtain ⟨y0, y1, y2, y3, _, _, _, _⟩ := rw4 H7.a
    go_wp2_with fail
    go_at_call 39
    refine HRSY.out.mono ?_
    rintro e8 w8 ⟨v8, rfl, hr8, hb8, hl8⟩
    have H8 := H7.below hb8
    have B8 := bel B7 hb8 B7.size
    have hr80 := hr8
    obtain ⟨q1, f1, q2, f2, rfl, _, _⟩ := hr80
    clear y0 y1 y2 y3
    obtain ⟨y0, y1, y2, y3, t0, t1, t2, t3⟩ := rw4 H8.a
    have H9 := H8.put3 (.slice q1 D2.l.length f1) (.slice q2 D2.waits.length f2) (.int .i64 D2.left) (.bool D2.down)
    have B9 : Below w.heap.size w ((((w8.setCell ⟨w.heap.size, 0, none⟩ (.slice q1 D2.l.length f1)).setCell ⟨w.heap.size, 1, none⟩ (.slice q2 D2.waits.length f2)).setCell ⟨w.heap.size, 2, none⟩ (.int .i64 D2.left)).setCell ⟨w.heap.size, 3, none⟩ (.bool D2.down)) := (((B8.setCell (p := ⟨w.heap.size, 0, none⟩) (Nat.le_refl _) _).setCell (p := ⟨w.heap.size, 1, none⟩) (Nat.le_refl _) _).setCell (p := ⟨w.heap.size, 2, none⟩) (Nat.le_refl _) _).setCell (p := ⟨w.heap.size, 3, none⟩) (Nat.le_refl _) _
    have K9 : Kp (fun k => w.heap.size ≤ k ∧ k < w.heap.size + 4) w8 ((((w8.setCell ⟨w.heap.size, 0, none⟩ (.slice q1 D2.l.length f1)).setCell ⟨w.heap.size, 1, none⟩ (.slice q2 D2.waits.length f2)).setCell ⟨w.heap.size, 2, none⟩ (.int .i64 D2.left)).setCell ⟨w.heap.size, 3, none⟩ (.bool D2.down)) := (Kp.setCell (Kp.setCell (Kp.setCell (Kp.setCell (Kp.refl _ w8) (x := ⟨w.heap.size, 0, none⟩) (.inl (by simp only; omega)) _) (x := ⟨w.heap.size, 1, none⟩) (.inl (by simp only; omega)) _) (x := ⟨w.heap.size, 2, none⟩) (.inl (by simp only; omega)) _) (x := ⟨w.heap.size, 3, none⟩) (.inl (by simp only; omega)) _)
    have hloc8 : ∀ k, locR (rdV q1 D2.l.length f1 q2 D2.waits.length f2 D2.left D2.down) k → ¬ (w.heap.size ≤ k ∧ k < w.heap.size + 4) := fun k hk hq => by
      rcases hl8 k hk with h | h
      · exact HLOC6.out k h hq
      · have := H7.d.lt; omega
    have hl0 : ∀ k, locR (rdV q1 D2.l.length f1 q2 D2.waits.length f2 D2.left D2.down) k → locR (rdV a1 D.l.length c1 a2 D.waits.length c2 D.left D.down) k ∨ w.heap.size ≤ k := fun k hk => (hl8 k hk).elim (HL0.out k) (fun h => .inr (Nat.le_trans B7.size h))
    have HLOC8 := Go.Lib.hid hloc8
    have HL8 := Go.Lib.hid hl0
    clear hloc8 hl0
    unfold rdV
    by_cases he2 : e2 = 0
    case neg =>
      have heb2 : (e2 == 0) = false := by simpa using he2
      have hne2 : (e2 != 0) = true := by simpa using he2
      have HRS := HQ2.out
      rw [if_pos he2] at HRS
      have HR := Go.Lib.hid HRS
      clear HRS he2
      obtain ⟨n0, n1, n2, n3, n4, n5, s0, s1, s2, s3, s4, s5⟩ := rw6 H8.b
      go_wp2_with fail
      generalize ((((w8.setCell ⟨w.heap.size, 0, none⟩ (.slice q1 D2.l.length f1)).setCell ⟨w.heap.size, 1, none⟩ (.slice q2 D2.waits.length f2)).setCell ⟨w.heap.size, 2, none⟩ (.int .i64 D2.left)).setCell ⟨w.heap.size, 3, none⟩ (.bool D2.down)) = w9 at *
      have HS' : FourB w.heap.size [.slice q1 D2.l.length f1, .slice q2 D2.waits.length f2, .int .i64 D2.left, .bool D2.down] [.int .i64 (at_ : Int), .int .i64 now, .int .u64 (turn : Int), .int .u64 (top : Int), .string ⟨b.toArray⟩, .int .i64 e2] [.slice none 0 0, .slice none 0 0, .int .i64 0, .bool false] [.int .i64 0, .int .i64 0, .int .u64 0, .int .u64 0, .string ⟨#[]⟩, .int .i64 0] (w9.setCell ⟨w.heap.size + 1, 5, none⟩ (.int .i64 e2)) := H9.set4 5 (.int .i64 e2)
      have BS' : Below w.heap.size w (w9.setCell ⟨w.heap.size + 1, 5, none⟩ (.int .i64 e2)) := B9.setCell (p := ⟨w.heap.size + 1, 5, none⟩) (by simp) _
      have KS' : Kp (fun k => w.heap.size ≤ k ∧ k < w.heap.size + 4) w8 (w9.setCell ⟨w.heap.size + 1, 5, none⟩ (.int .i64 e2)) := Kp.setCell K9 (x := ⟨w.heap.size + 1, 5, none⟩) (.inl (by simp only; omega)) _
      clear y0 y1 y2 y3 t0 t1 t2 t3 n0 n1 n2 n3 n4 n5 s0 s1 s2 s3 s4 s5
      generalize w9.setCell ⟨w.heap.size + 1, 5, none⟩ (.int .i64 e2) = wX at *
      refine NB.wp_region_s [3, 4] (TwoB w.heap.size [.slice q1 D2.l.length f1, .slice q2 D2.waits.length f2, .int .i64 D2.left, .bool D2.down] [.int .i64 (at_ : Int), .int .i64 now, .int .u64 (turn : Int), .int .u64 (top : Int), .string ⟨b.toArray⟩, .int .i64 e2]) (by kernel_rfl) ?_
      have HD0 := HS'.below (Below.refl _ wX).drew
      have BD0 : Below w.heap.size w wX.drew := BS'.drew
      have KT := KS'.drew
      generalize wX.drew = wT at *
      have hA : TwoB w.heap.size [.slice q1 D2.l.length f1, .slice q2 D2.waits.length f2, .int .i64 D2.left, .bool D2.down] [.int .i64 (at_ : Int), .int .i64 now, .int .u64 (turn : Int), .int .u64 (top : Int), .string ⟨b.toArray⟩, .int .i64 e2] wT := ⟨HD0.a, HD0.b⟩
      have hst : ∀ x y, TwoB w.heap.size [.slice q1 D2.l.length f1, .slice q2 D2.waits.length f2, .int .i64 D2.left, .bool D2.down] [.int .i64 (at_ : Int), .int .i64 now, .int .u64 (turn : Int), .int .u64 (top : Int), .string ⟨b.toArray⟩, .int .i64 e2] x → Below x.heap.size x y → TwoB w.heap.size [.slice q1 D2.l.length f1, .slice q2 D2.waits.length f2, .int .i64 D2.left, .bool D2.down] [.int .i64 (at_ : Int), .int .i64 now, .int .u64 (turn : Int), .int .u64 (top : Int), .string ⟨b.toArray⟩, .int .i64 e2] y := fun x y h hb => ⟨h.a.below hb, h.b.below hb⟩
      refine NB.s_a 0 rfl (by kernel_rfl) rfl _ hA hst (fun w' hw' => NB.run_op_load_agg rfl rfl Try.underlying49 rfl _ _ (0, 0) (hw'.a) (m := 4) (by kernel_rfl) (by simp) _ rfl (Below.refl _ w')) (fun K hK => ?_); go_simp; refine hK _ ?_; clear hK K
      refine NB.s_a 1 rfl (by kernel_rfl) rfl _ hA hst (fun w' hw' => NB.run_op_load_agg rfl rfl Try.underlying53 rfl _ _ (0, 0) (hw'.b) (m := 6) (by kernel_rfl) (by simp) _ rfl (Below.refl _ w')) (fun K hK => ?_); go_simp; refine hK _ ?_; clear hK K
      refine NB.s_p 2 rfl (by kernel_rfl) (fun K hK => ?_); go_simp; refine hK _ ?_; clear hK K
      refine NB.s_w 3 rfl (by kernel_rfl) (by kernel_rfl) rfl (fun Q' hK => ?_)
      obtain ⟨y0, y1, y2, y3, t0, t1, t2, t3⟩ := rw4 HD0.c
      go_wp2_with fail
      have HU := HD0.put6 (.slice q1 D2.l.length f1) (.slice q2 D2.waits.length f2) (.int .i64 D2.left) (.bool D2.down)
      have BU : Below w.heap.size w ((((wT.setCell ⟨w.heap.size + 2, 0, none⟩ (.slice q1 D2.l.length f1)).setCell ⟨w.heap.size + 2, 1, none⟩ (.slice q2 D2.waits.length f2)).setCell ⟨w.heap.size + 2, 2, none⟩ (.int .i64 D2.left)).setCell ⟨w.heap.size + 2, 3, none⟩ (.bool D2.down)) := (((BD0.setCell (p := ⟨w.heap.size + 2, 0, none⟩) (by simp) _).setCell (p := ⟨w.heap.size + 2, 1, none⟩) (by simp) _).setCell (p := ⟨w.heap.size + 2, 2, none⟩) (by simp) _).setCell (p := ⟨w.heap.size + 2, 3, none⟩) (by simp) _
      have KU : Kp (fun k => w.heap.size ≤ k ∧ k < w.heap.size + 4) w8 ((((wT.setCell ⟨w.heap.size + 2, 0, none⟩ (.slice q1 D2.l.length f1)).setCell ⟨w.heap.size + 2, 1, none⟩ (.slice q2 D2.waits.length f2)).setCell ⟨w.heap.size + 2, 2, none⟩ (.int .i64 D2.left)).setCell ⟨w.heap.size + 2, 3, none⟩ (.bool D2.down)) := (Kp.setCell (Kp.setCell (Kp.setCell (Kp.setCell KT (x := ⟨w.heap.size + 2, 0, none⟩) (.inl (by simp only; omega)) _) (x := ⟨w.heap.size + 2, 1, none⟩) (.inl (by simp only; omega)) _) (x := ⟨w.heap.size + 2, 2, none⟩) (.inl (by simp only; omega)) _) (x := ⟨w.heap.size + 2, 3, none⟩) (.inl (by simp only; omega)) _)
      generalize ((((wT.setCell ⟨w.heap.size + 2, 0, none⟩ (.slice q1 D2.l.length f1)).setCell ⟨w.heap.size + 2, 1, none⟩ (.slice q2 D2.waits.length f2)).setCell ⟨w.heap.size + 2, 2, none⟩ (.int .i64 D2.left)).setCell ⟨w.heap.size + 2, 3, none⟩ (.bool D2.down)) = wU at *
      refine ⟨⟨HU.a, HU.b⟩, ?_⟩
      clear y0 y1 y2 y3 t0 t1 t2 t3 HD0 BD0 hA KT
      refine NB.s_w 4 rfl (by kernel_rfl) (by kernel_rfl) rfl (fun Q' hK => ?_)
      obtain ⟨y0, y1, y2, y3, y4, y5, t0, t1, t2, t3, t4, t5⟩ := rw6 HU.d
      go_wp2_with fail
      have HV := HU.put7 (.int .i64 (at_ : Int)) (.int .i64 now) (.int .u64 (turn : Int)) (.int .u64 (top : Int)) (.string ⟨b.toArray⟩) (.int .i64 e2)
      have BV : Below w.heap.size w ((((((wU.setCell ⟨w.heap.size + 3, 0, none⟩ (.int .i64 (at_ : Int))).setCell ⟨w.heap.size + 3, 1, none⟩ (.int .i64 now)).setCell ⟨w.heap.size + 3, 2, none⟩ (.int .u64 (turn : Int))).setCell ⟨w.heap.size + 3, 3, none⟩ (.int .u64 (top : Int))).setCell ⟨w.heap.size + 3, 4, none⟩ (.string ⟨b.toArray⟩)).setCell ⟨w.heap.size + 3, 5, none⟩ (.int .i64 e2)) := (((((BU.setCell (p := ⟨w.heap.size + 3, 0, none⟩) (by simp) _).setCell (p := ⟨w.heap.size + 3, 1, none⟩) (by simp) _).setCell (p := ⟨w.heap.size + 3, 2, none⟩) (by simp) _).setCell (p := ⟨w.heap.size + 3, 3, none⟩) (by simp) _).setCell (p := ⟨w.heap.size + 3, 4, none⟩) (by simp) _).setCell (p := ⟨w.heap.size + 3, 5, none⟩) (by simp) _
      have KV : Kp (fun k => w.heap.size ≤ k ∧ k < w.heap.size + 4) w8 ((((((wU.setCell ⟨w.heap.size + 3, 0, none⟩ (.int .i64 (at_ : Int))).setCell ⟨w.heap.size + 3, 1, none⟩ (.int .i64 now)).setCell ⟨w.heap.size + 3, 2, none⟩ (.int .u64 (turn : Int))).setCell ⟨w.heap.size + 3, 3, none⟩ (.int .u64 (top : Int))).setCell ⟨w.heap.size + 3, 4, none⟩ (.string ⟨b.toArray⟩)).setCell ⟨w.heap.size + 3, 5, none⟩ (.int .i64 e2)) := (Kp.setCell (Kp.setCell (Kp.setCell (Kp.setCell (Kp.setCell (Kp.setCell KU (x := ⟨w.heap.size + 3, 0, none⟩) (.inl (by simp only; omega)) _) (x := ⟨w.heap.size + 3, 1, none⟩) (.inl (by simp only; omega)) _) (x := ⟨w.heap.size + 3, 2, none⟩) (.inl (by simp only; omega)) _) (x := ⟨w.heap.size + 3, 3, none⟩) (.inl (by simp only; omega)) _) (x := ⟨w.heap.size + 3, 4, none⟩) (.inl (by simp only; omega)) _) (x := ⟨w.heap.size + 3, 5, none⟩) (.inl (by simp only; omega)) _)
      generalize ((((((wU.setCell ⟨w.heap.size + 3, 0, none⟩ (.int .i64 (at_ : Int))).setCell ⟨w.heap.size + 3, 1, none⟩ (.int .i64 now)).setCell ⟨w.heap.size + 3, 2, none⟩ (.int .u64 (turn : Int))).setCell ⟨w.heap.size + 3, 3, none⟩ (.int .u64 (top : Int))).setCell ⟨w.heap.size + 3, 4, none⟩ (.string ⟨b.toArray⟩)).setCell ⟨w.heap.size + 3, 5, none⟩ (.int .i64 e2)) = wV at *
      refine ⟨⟨HV.a, HV.b⟩, ?_⟩
      clear y0 y1 y2 y3 y4 y5 t0 t1 t2 t3 t4 t5 HU BU KU
      refine NB.s_p 5 rfl (by kernel_rfl) (fun K hK => ?_); go_simp; refine hK _ ?_; clear hK K
      refine NB.s_end (by kernel_rfl) ?_
      obtain ⟨y0, y1, y2, y3, _, _, _, _⟩ := rw4 HV.c
      obtain ⟨z0, z1, z2, z3, z4, z5, _, _, _, _, _, _⟩ := rw6 HV.d
      have hz6 := HV.c.lt
      have hz7 := HV.d.lt
      go_wp2_with fail
      refine bodyPost_ret (v := .tuple #[rdV q1 D2.l.length f1 q2 D2.waits.length f2 D2.left D2.down, cV ⟨at_, now, turn, top, b, e2⟩, .int .i64 e2]) (by simp [results, Try.results20, go_sem, y0, y1, y2, y3, z0, z1, z2, z3, z4, z5, hz6, hz7, rdV, cV]) rfl ?_
      rw [HR.out]
      exact ⟨_, rfl, hr8.keep KV HLOC8.out, BV, HL8.out⟩
    subst he2
    have HRS := HQ2.out
    rw [if_neg (by simp)] at HRS
    have HR := Go.Lib.hid HRS
    clear HRS
    go_wp2_with fail
    generalize ((((w8.setCell ⟨w.heap.size, 0, none⟩ (.slice q1 D2.l.length f1)).setCell ⟨w.heap.size, 1, none⟩ (.slice q2 D2.waits.length f2)).setCell ⟨w.heap.size, 2, none⟩ (.int .i64 D2.left)).setCell ⟨w.heap.size, 3, none⟩ (.bool D2.down)) = w9 at *
    clear y0 y1 y2 y3 t0 t1 t2 t3
    refine NB.wp_region_s [12, 13] (TwoB w.heap.size [.slice q1 D2.l.length f1, .slice q2 D2.waits.length f2, .int .i64 D2.left, .bool D2.down] [.int .i64 (at_ : Int), .int .i64 now, .int .u64 (turn : Int), .int .u64 (top : Int), .string ⟨b.toArray⟩, .int .i64 0]) (by kernel_rfl) ?_
    have HD0 := H9.below (Below.refl _ w9).drew
    have BD0 : Below w.heap.size w w9.drew := B9.drew
    have KT := K9.drew
    generalize w9.drew = wT at *
    have hA : TwoB w.heap.size [.slice q1 D2.l.length f1, .slice q2 D2.waits.length f2, .int .i64 D2.left, .bool D2.down] [.int .i64 (at_ : Int), .int .i64 now, .int .u64 (turn : Int), .int .u64 (top : Int), .string ⟨b.toArray⟩, .int .i64 0] wT := ⟨HD0.a, HD0.b⟩
    have hst : ∀ x y, TwoB w.heap.size [.slice q1 D2.l.length f1, .slice q2 D2.waits.length f2, .int .i64 D2.left, .bool D2.down] [.int .i64 (at_ : Int), .int .i64 now, .int .u64 (turn : Int), .int .u64 (top : Int), .string ⟨b.toArray⟩, .int .i64 0] x → Below x.heap.size x y → TwoB w.heap.size [.slice q1 D2.l.length f1, .slice q2 D2.waits.length f2, .int .i64 D2.left, .bool D2.down] [.int .i64 (at_ : Int), .int .i64 now, .int .u64 (turn : Int), .int .u64 (top : Int), .string ⟨b.toArray⟩, .int .i64 0] y := fun x y h hb => ⟨h.a.below hb, h.b.below hb⟩
    refine NB.s_a 0 rfl (by kernel_rfl) rfl _ hA hst (fun w' hw' => NB.run_op_load_agg rfl rfl Try.underlying49 rfl _ _ (0, 0) (hw'.a) (m := 4) (by kernel_rfl) (by simp) _ rfl (Below.refl _ w')) (fun K hK => ?_); go_simp; refine hK _ ?_; clear hK K
    refine NB.s_p 1 rfl (by kernel_rfl) (fun K hK => ?_); go_simp; refine hK _ ?_; clear hK K
    refine NB.s_a 2 rfl (by kernel_rfl) rfl _ hA hst (fun w' hw' => NB.run_op_load rfl rfl Try.underlying3 rfl (hw'.b.cell 0 _ rfl) (Below.refl _ w')) (fun K hK => ?_); go_simp; refine hK _ ?_; clear hK K
    refine NB.s_p 3 rfl (by kernel_rfl) (fun K hK => ?_); go_simp; refine hK _ ?_; clear hK K
    refine NB.s_p 4 rfl (by kernel_rfl) (fun K hK => ?_); go_simp; refine hK _ ?_; clear hK K
    refine NB.s_a 5 rfl (by kernel_rfl) rfl _ hA hst (fun w' hw' => NB.run_op_load rfl rfl Try.underlying33 rfl (hw'.b.cell 3 _ rfl) (Below.refl _ w')) (fun K hK => ?_); go_simp; refine hK _ ?_; clear hK K
    refine NB.s_p 6 rfl (by kernel_rfl) (fun K hK => ?_); go_simp; refine hK _ ?_; clear hK K
    refine NB.s_p 7 rfl (by kernel_rfl) (fun K hK => ?_); go_simp; refine hK _ ?_; clear hK K
    refine NB.s_a 8 rfl (by kernel_rfl) rfl _ hA hst (fun w' hw' => NB.run_op_load rfl rfl Try.underlying33 rfl (hw'.b.cell 3 _ rfl) (Below.refl _ w')) (fun K hK => ?_); go_simp; refine hK _ ?_; clear hK K
    refine NB.s_p 9 rfl (by kernel_rfl) (fun K hK => ?_); go_simp; refine hK _ ?_; clear hK K
    refine NB.s_p 10 rfl (by kernel_rfl) (fun K hK => ?_); go_simp; refine hK _ ?_; clear hK K
    refine NB.s_p 11 rfl (by kernel_rfl) (fun K hK => ?_); go_simp; refine hK _ ?_; clear hK K
    refine NB.s_w 12 rfl (by kernel_rfl) (by kernel_rfl) rfl (fun Q' hK => ?_)
    obtain ⟨y0, y1, y2, y3, t0, t1, t2, t3⟩ := rw4 HD0.c
    go_wp2_with fail
    have HU := HD0.put6 (.slice q1 D2.l.length f1) (.slice q2 D2.waits.length f2) (.int .i64 D2.left) (.bool D2.down)
    have BU : Below w.heap.size w ((((wT.setCell ⟨w.heap.size + 2, 0, none⟩ (.slice q1 D2.l.length f1)).setCell ⟨w.heap.size + 2, 1, none⟩ (.slice q2 D2.waits.length f2)).setCell ⟨w.heap.size + 2, 2, none⟩ (.int .i64 D2.left)).setCell ⟨w.heap.size + 2, 3, none⟩ (.bool D2.down)) := (((BD0.setCell (p := ⟨w.heap.size + 2, 0, none⟩) (by simp) _).setCell (p := ⟨w.heap.size + 2, 1, none⟩) (by simp) _).setCell (p := ⟨w.heap.size + 2, 2, none⟩) (by simp) _).setCell (p := ⟨w.heap.size + 2, 3, none⟩) (by simp) _
    have KU : Kp (fun k => w.heap.size ≤ k ∧ k < w.heap.size + 4) w8 ((((wT.setCell ⟨w.heap.size + 2, 0, none⟩ (.slice q1 D2.l.length f1)).setCell ⟨w.heap.size + 2, 1, none⟩ (.slice q2 D2.waits.length f2)).setCell ⟨w.heap.size + 2, 2, none⟩ (.int .i64 D2.left)).setCell ⟨w.heap.size + 2, 3, none⟩ (.bool D2.down)) := (Kp.setCell (Kp.setCell (Kp.setCell (Kp.setCell KT (x := ⟨w.heap.size + 2, 0, none⟩) (.inl (by simp only; omega)) _) (x := ⟨w.heap.size + 2, 1, none⟩) (.inl (by simp only; omega)) _) (x := ⟨w.heap.size + 2, 2, none⟩) (.inl (by simp only; omega)) _) (x := ⟨w.heap.size + 2, 3, none⟩) (.inl (by simp only; omega)) _)
    generalize ((((wT.setCell ⟨w.heap.size + 2, 0, none⟩ (.slice q1 D2.l.length f1)).setCell ⟨w.heap.size + 2, 1, none⟩ (.slice q2 D2.waits.length f2)).setCell ⟨w.heap.size + 2, 2, none⟩ (.int .i64 D2.left)).setCell ⟨w.heap.size + 2, 3, none⟩ (.bool D2.down)) = wU at *
    refine ⟨⟨HU.a, HU.b⟩, ?_⟩
    clear y0 y1 y2 y3 t0 t1 t2 t3 HD0 BD0 hA KT
    refine NB.s_w 13 rfl (by kernel_rfl) (by kernel_rfl) rfl (fun Q' hK => ?_)
    obtain ⟨y0, y1, y2, y3, y4, y5, t0, t1, t2, t3, t4, t5⟩ := rw6 HU.d
    go_wp2_with fail
    have HV := HU.put7 (.int .i64 (at_ : Int)) (.int .i64 (I : Int)) (.int .u64 (T : Int)) (.int .u64 (T : Int)) (.string ⟨bs.toArray⟩) (.int .i64 0)
    have BV : Below w.heap.size w ((((((wU.setCell ⟨w.heap.size + 3, 0, none⟩ (.int .i64 (at_ : Int))).setCell ⟨w.heap.size + 3, 1, none⟩ (.int .i64 (I : Int))).setCell ⟨w.heap.size + 3, 2, none⟩ (.int .u64 (T : Int))).setCell ⟨w.heap.size + 3, 3, none⟩ (.int .u64 (T : Int))).setCell ⟨w.heap.size + 3, 4, none⟩ (.string ⟨bs.toArray⟩)).setCell ⟨w.heap.size + 3, 5, none⟩ (.int .i64 0)) := (((((BU.setCell (p := ⟨w.heap.size + 3, 0, none⟩) (by simp) _).setCell (p := ⟨w.heap.size + 3, 1, none⟩) (by simp) _).setCell (p := ⟨w.heap.size + 3, 2, none⟩) (by simp) _).setCell (p := ⟨w.heap.size + 3, 3, none⟩) (by simp) _).setCell (p := ⟨w.heap.size + 3, 4, none⟩) (by simp) _).setCell (p := ⟨w.heap.size + 3, 5, none⟩) (by simp) _
    have KV : Kp (fun k => w.heap.size ≤ k ∧ k < w.heap.size + 4) w8 ((((((wU.setCell ⟨w.heap.size + 3, 0, none⟩ (.int .i64 (at_ : Int))).setCell ⟨w.heap.size + 3, 1, none⟩ (.int .i64 (I : Int))).setCell ⟨w.heap.size + 3, 2, none⟩ (.int .u64 (T : Int))).setCell ⟨w.heap.size + 3, 3, none⟩ (.int .u64 (T : Int))).setCell ⟨w.heap.size + 3, 4, none⟩ (.string ⟨bs.toArray⟩)).setCell ⟨w.heap.size + 3, 5, none⟩ (.int .i64 0)) := (Kp.setCell (Kp.setCell (Kp.setCell (Kp.setCell (Kp.setCell (Kp.setCell KU (x := ⟨w.heap.size + 3, 0, none⟩) (.inl (by simp only; omega)) _) (x := ⟨w.heap.size + 3, 1, none⟩) (.inl (by simp only; omega)) _) (x := ⟨w.heap.size + 3, 2, none⟩) (.inl (by simp only; omega)) _) (x := ⟨w.heap.size + 3, 3, none⟩) (.inl (by simp only; omega)) _) (x := ⟨w.heap.size + 3, 4, none⟩) (.inl (by simp only; omega)) _) (x := ⟨w.heap.size + 3, 5, none⟩) (.inl (by simp only; omega)) _)
    generalize ((((((wU.setCell ⟨w.heap.size + 3, 0, none⟩ (.int .i64 (at_ : Int))).setCell ⟨w.heap.size + 3, 1, none⟩ (.int .i64 (I : Int))).setCell ⟨w.heap.size + 3, 2, none⟩ (.int .u64 (T : Int))).setCell ⟨w.heap.size + 3, 3, none⟩ (.int .u64 (T : Int))).setCell ⟨w.heap.size + 3, 4, none⟩ (.string ⟨bs.toArray⟩)).setCell ⟨w.heap.size + 3, 5, none⟩ (.int .i64 0)) = wV at *
    refine ⟨⟨HV.a, HV.b⟩, ?_⟩
    clear y0 y1 y2 y3 y4 y5 t0 t1 t2 t3 t4 t5 HU BU KU
    refine NB.s_p 14 rfl (by kernel_rfl) (fun K hK => ?_); go_simp; refine hK _ ?_; clear hK K
    refine NB.s_end (by kernel_rfl) ?_
    obtain ⟨y0, y1, y2, y3, _, _, _, _⟩ := rw4 HV.c
    obtain ⟨z0, z1, z2, z3, z4, z5, _, _, _, _, _, _⟩ := rw6 HV.d
    have hz6 := HV.c.lt
    have hz7 := HV.d.lt
    go_wp2_with fail
    refine bodyPost_ret (v := .tuple #[rdV q1 D2.l.length f1 q2 D2.waits.length f2 D2.left D2.down, cV ⟨at_, (I : Int), T, T, bs, 0⟩, .int .i64 0]) (by simp [results, Try.results20, go_sem, y0, y1, y2, y3, z0, z1, z2, z3, z4, z5, hz6, hz7, rdV, cV]) rfl ?_

    rw [HR.out]
    exact ⟨_, rfl, hr8.keep KV HLOC8.out, BV, HL8.out⟩
end Go.Proofs.Ytcdapjfaekamkaa
