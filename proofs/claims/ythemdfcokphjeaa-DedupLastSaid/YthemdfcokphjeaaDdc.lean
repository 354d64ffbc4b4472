/- Dedup's entries, walked: Put, Get. -/
import Derived.Test.YthemdfcokphjeaaNumc
import Derived.Test.YthemdfcokphjeaaNump
import Derived.Test.YthemdfcokphjeaaRw
import Derived.Test.YthemdfcokphjeaaDdm
namespace Go.Proofs.Ythemdfcokphjeaa
open Go.RowKit
open Go.NB (Rd Kp Stp Off Dis B64 Rr encU encB oneB dB Rw)

/-- An entry: who, its number, its bytes. -/
abbrev En := Nat × Nat × List UInt8
def putM (e : En) : List UInt8 × Int := if 1024 < e.2.2.length then ([], 13) else (encU e.1 ++ encU e.2.1 ++ encB e.2.2, 0)
def getM (b : List UInt8) : En × Int :=
  let u := Rr.uint ⟨b, 0⟩
  let v := u.1.uint
  let t := v.1.bytes 1024
  if t.1.fin ≠ 0 then ((0, 0, []), t.1.fin) else ((u.2, v.2, t.2), 0)

/-- Bytes and an error, in new memory. -/
def BytE (w : World) (r : List UInt8 × Int) (e : Ending) (w' : World) : Prop :=
  ∃ a c, e = .returned (.tuple #[.slice a r.1.length c, .int .i64 r.2]) ∧ NB.OwnB w' w.heap.size 5 (.slice a r.1.length c) r.1 ∧ Below w.heap.size w w'

set_option maxHeartbeats 400000 in
theorem dput_any (w : World) (x y : Nat) (a : Option Addr) (n c : Nat) (b : List UInt8) (hx : B64 x) (hy : B64 y) (hr : NB.RdB w a n c b) :
    Calls Try.prog 9 #[.agg #[.int .u64 (x : Int), .int .u64 (y : Int), .slice a n c]] w (BytE w (putM (x, y, b))) := by
  have hsz := NB.RdB.size hr
  by_cases h0 : 1024 < n
  · have hq : putM (x, y, b) = ([], 13) := by simp [putM, hsz, h0]
    rw [hq]
    have h0' : (1024 : Int) < (n : Int) := by omega
    go_enter Try.func9, Try.ntmps9
    go_wp2
    go_ret2
    exact ⟨none, 0, rfl, World.ownsRow_nil _ _ _ _, oneB _ _⟩
  · have hq : putM (x, y, b) = (encU x ++ encU y ++ encB b, 0) := by simp [putM, hsz, h0]
    rw [hq]
    have h0' : ¬ (1024 : Int) < (n : Int) := by omega
    have hx9 := NB.encU_len hx
    have hy9 := NB.encU_len hy
    have hb9 := NB.encU_len (x := b.length) (by omega)
    have hb10 : (encB b).length ≤ 2000 := by simp [encB]; omega
    have hrow := NB.rw_new w [.int .u64 (x : Int), .int .u64 (y : Int), .slice a n c] 25 rfl
    have hB1 := oneB w (.cells #[.int .u64 (x : Int), .int .u64 (y : Int), .slice a n c] 25)
    simp only [List.toArray] at hrow
    go_enter Try.func9, Try.ntmps9
    go_wp2_with fail
    refine (wnew_any _).mono ?_
    rintro e w1 ⟨p, F1, rfl, hW1, hb1⟩
    have row1 := hrow.below hb1
    have B1 := NB.bel hB1 hb1 hB1.size
    have hoff : Off F1 w1 a n c b := Off.old hr B1 (fun k hk => Nat.le_trans hB1.size (hW1.foot k hk).1)
    have hbase := hB1.size
    have hG : ∀ F bs w', HasW w' (w.alloc (.cells #[.int .u64 (x : Int), .int .u64 (y : Int), .slice a n c] 25)).heap.size p F bs → ¬ F w.heap.size := fun F bs w' h hk => by have := (h.foot _ hk).1; simp at this; omega
    have hbx : (w.alloc (.cells #[.int .u64 (x : Int), .int .u64 (y : Int), .slice a n c] 25)).heap.size = w.heap.size + 1 := by simp
    clear hrow hB1 hb1
    generalize (w.alloc (.cells #[.int .u64 (x : Int), .int .u64 (y : Int), .slice a n c] 25)).heap.size = base at *
    obtain ⟨c0, c1, c2, _⟩ := NB.rw3 row1
    go_wp2_with fail
    refine (wuint_any _ _ _ _ _ x hx hW1 (by simp)).mono ?_
    rintro e w2 ⟨rfl, F2, hW2, hS2⟩
    rw [List.nil_append] at hW2
    have row2 := row1.keep hS2.kp (hG _ _ _ hW1)
    have B2 := NB.bel B1 (hW1.low hS2) hbase
    have off2 := hoff.step hS2
    clear c0 c1 c2 hW1 B1 hoff row1
    obtain ⟨c0, c1, c2, _⟩ := NB.rw3 row2
    go_wp2_with fail
    refine (wuint_any _ _ _ _ _ y hy hW2 (by omega)).mono ?_
    rintro e w3 ⟨rfl, F3, hW3, hS3⟩
    have row3 := row2.keep hS3.kp (hG _ _ _ hW2)
    have B3 := NB.bel B2 (hW2.low hS3) hbase
    have off3 := off2.step hS3
    clear c0 c1 c2 hW2 B2 off2 row2
    obtain ⟨c0, c1, c2, _⟩ := NB.rw3 row3
    go_wp2_with fail
    refine (wbytes_any _ _ _ _ _ _ _ _ _ hW3 off3 (by simp; omega)).mono ?_
    rintro e w4 ⟨rfl, F4, hW4, hS4⟩
    have B4 := NB.bel B3 (hW3.low hS4) hbase
    clear c0 c1 c2 hW3 B3 off3 row3
    have hZ : (encU x ++ encU y ++ encB b).length ≤ 5000 := by simp; omega
    generalize encU x ++ encU y ++ encB b = Z at *
    go_wp2_with fail
    refine (wout_any _ _ _ _ _ hW4 (by omega)).mono ?_
    rintro e w5 ⟨a5, c5, rfl, ho5, hb5⟩
    go_wp2_with fail
    go_ret2
    exact ⟨a5, c5, rfl, NB.own_mono ho5 B4.size, NB.bel B4 hb5 B4.size⟩

theorem two_lt {w : World} {g g' : Nat} (h : g < w.heap.size) (h' : g' < w.heap.size) : ∀ k, (k = g ∨ k = g') → k < w.heap.size := by
  rintro k (rfl | rfl)
  · exact h
  · exact h'

/-- An entry and an error. -/
def EntE (w : World) (r : En × Int) (e : Ending) (w' : World) : Prop :=
  ∃ a n c, e = .returned (.tuple #[.agg #[.int .u64 (r.1.1 : Int), .int .u64 (r.1.2.1 : Int), .slice a n c], .int .i64 r.2]) ∧ NB.RdB w' a n c r.1.2.2 ∧ Below w.heap.size w w'

set_option maxHeartbeats 1000000 in
theorem dget_any (w : World) (a : Option Addr) (n c : Nat) (b : List UInt8) (hr : NB.RdB w a n c b) (hl : n ≤ 100000000) :
    Calls Try.prog 11 #[.slice a n c] w (EntE w (getM b)) := by
  have hsz := NB.RdB.size hr
  have hu1 := uint_left ⟨b, 0⟩
  have hu2 := uint_left (Rr.uint ⟨b, 0⟩).1
  have hq : getM b = if (((Rr.uint ⟨b, 0⟩).1.uint).1.bytes 1024).1.fin ≠ 0 then ((0, 0, []), (((Rr.uint ⟨b, 0⟩).1.uint).1.bytes 1024).1.fin) else (((Rr.uint ⟨b, 0⟩).2, ((Rr.uint ⟨b, 0⟩).1.uint).2, (((Rr.uint ⟨b, 0⟩).1.uint).1.bytes 1024).2), 0) := rfl
  have ct1 := fun w base p F h => ruint_any w base p F ⟨b, 0⟩ h
  generalize Rr.uint ⟨b, 0⟩ = u at *
  have ct2 := fun w base p F h => ruint_any w base p F u.1 h
  generalize u.1.uint = v at *
  have ct3 := fun w base p F h => rbytes_any w base p F v.1 1024 (by omega) h (by simp at hu1; omega)
  generalize v.1.bytes 1024 = t at *
  have HQ := Go.Lib.hid hq; have C1 := Go.Lib.hid ct1; have C2 := Go.Lib.hid ct2; have C3 := Go.Lib.hid ct3
  clear hq ct1 ct2 ct3 hu1 hu2
  generalize getM b = R at *
  go_enter Try.func11, Try.ntmps11
  go_wp2_with fail
  refine (rnew_any _ _ _ _ _ (hr.below (oneB _ _)) (by omega)).mono ?_
  rintro e w1 ⟨p, F1, rfl, hR1, hb1⟩
  have hA0 := (NB.rw_new w [.int .u64 0, .int .u64 0, .slice none 0 0] 25 rfl).below hb1
  have B1 := NB.bel (oneB _ _) hb1 (oneB w (.cells #[.int .u64 0, .int .u64 0, .slice none 0 0] 25)).size
  have hbase := (oneB w (.cells #[.int .u64 0, .int .u64 0, .slice none 0 0] 25)).size
  have hbx : (w.alloc (.cells #[.int .u64 0, .int .u64 0, .slice none 0 0] 25)).heap.size = w.heap.size + 1 := by simp
  clear hb1
  generalize (w.alloc (.cells #[.int .u64 0, .int .u64 0, .slice none 0 0] 25)).heap.size = base at *
  have hE2 := NB.rw_new w1 [.int .u64 0, .int .u64 0, .slice none 0 0] 25 rfl
  have hA2 := hA0.below (oneB w1 (.cells #[.int .u64 0, .int .u64 0, .slice none 0 0] 25))
  have hR2 := hR1.below (oneB w1 (.cells #[.int .u64 0, .int .u64 0, .slice none 0 0] 25))
  have B2 := B1.alloc B1.size (.cells #[.int .u64 0, .int .u64 0, .slice none 0 0] 25)
  have hd2 : Dis (fun k => k = w1.heap.size ∨ k = w.heap.size) F1 := fun k hk hf => by
    have := hR1.foot k hf
    rcases hk with rfl | rfl <;> omega
  have hE := w1.heap.size
  have hGA : w.heap.size ≤ w1.heap.size := B1.size
  have hne : w1.heap.size ≠ w.heap.size := by have := hA0.lt; omega
  simp only [List.toArray] at hE2
  go_wp2_with fail
  generalize w1.alloc (.cells #[.int .u64 0, .int .u64 0, .slice none 0 0] 25) = w2 at *
  clear hA0 hR1 B1
  generalize w1.heap.size = G at *
  refine (C1.out _ _ _ _ hR2).mono ?_
  rintro e w3 ⟨rfl, F3, hR3, hS3⟩
  have hd3 := hd2.step (two_lt hE2.lt hA2.lt) hS3
  have hE3 := hE2.keep hS3.kp (hd2 G (.inl rfl))
  have hA3 := hA2.keep hS3.kp (hd2 _ (.inr rfl))
  have B3 := NB.bel B2 (hR2.low hS3) hbase
  clear hd2 hE2 hA2 hR2 B2
  obtain ⟨c0, c1, c2, f0, f1, f2⟩ := NB.rw3 hE3
  go_wp2_with fail
  have hE4 := hE3.set 0 (.int .u64 (u.2 : Int))
  have hA4 := hA3.other (Ne.symm hne) 0 (.int .u64 (u.2 : Int))
  have K4 : Kp (fun k => k = G) w3 (w3.setCell ⟨G, 0, none⟩ (.int .u64 (u.2 : Int))) := (Kp.refl (fun k => k = G) w3).setCell (x := ⟨G, 0, none⟩) (.inl rfl) _
  have hR4 := hR3.keep K4 (fun k hk e => hd3 k (.inl e) hk)
  have B4 := B3.setCell (p := ⟨G, 0, none⟩) hGA (.int .u64 (u.2 : Int))
  have hd4 := hd3
  clear hE3 hA3 hR3 B3 K4 c0 c1 c2 f0 f1 f2
  generalize w3.setCell ⟨G, 0, none⟩ (.int .u64 (u.2 : Int)) = w4 at *
  refine (C2.out _ _ _ _ hR4).mono ?_
  rintro e w5 ⟨rfl, F5, hR5, hS5⟩
  have hd5 := hd4.step (two_lt hE4.lt hA4.lt) hS5
  have hE5 := hE4.keep hS5.kp (hd4 G (.inl rfl))
  have hA5 := hA4.keep hS5.kp (hd4 _ (.inr rfl))
  have B5 := NB.bel B4 (hR4.low hS5) hbase
  clear hd4 hE4 hA4 hR4 B4
  obtain ⟨c0, c1, c2, f0, f1, f2⟩ := NB.rw3 hE5
  go_wp2_with fail
  have hE6 := hE5.set 1 (.int .u64 (v.2 : Int))
  have hA6 := hA5.other (Ne.symm hne) 1 (.int .u64 (v.2 : Int))
  have K6 : Kp (fun k => k = G) w5 (w5.setCell ⟨G, 1, none⟩ (.int .u64 (v.2 : Int))) := (Kp.refl (fun k => k = G) w5).setCell (x := ⟨G, 1, none⟩) (.inl rfl) _
  have hR6 := hR5.keep K6 (fun k hk e => hd5 k (.inl e) hk)
  have B6 := B5.setCell (p := ⟨G, 1, none⟩) hGA (.int .u64 (v.2 : Int))
  have hd6 := hd5
  clear hE5 hA5 hR5 B5 K6 c0 c1 c2 f0 f1 f2
  generalize w5.setCell ⟨G, 1, none⟩ (.int .u64 (v.2 : Int)) = w6 at *
  refine (C3.out _ _ _ _ hR6).mono ?_
  rintro e w7 ⟨a7, c7, F7, rfl, ho7, hR7, hS7, hf7⟩
  have hd7 := hd6.step (two_lt hE6.lt hA6.lt) hS7
  have hE7 := hE6.keep hS7.kp (hd6 G (.inl rfl))
  have hA7 := hA6.keep hS7.kp (hd6 _ (.inr rfl))
  have B7 := NB.bel B6 (hR6.low hS7) hbase
  have hnot : ∀ b o, a7 = some ⟨b, o, none⟩ → t.2 ≠ [] → ¬ (b = G ∨ b = w.heap.size) := by
    obtain ⟨a1, c1, e1, hr1, hl1, _⟩ := NB.rd_of_own ho7
    cases e1
    intro b o e _ hb
    have := (hl1 b o e).1
    rcases hb with rfl | rfl
    · have := hE6.lt; omega
    · have := hA6.lt; omega
  clear hd6 hE6 hA6 hR6 B6
  obtain ⟨c0, c1, c2, f0, f1, f2⟩ := NB.rw3 hE7
  go_wp2_with fail
  have hE8 := hE7.set 2 (.slice a7 t.2.length c7)
  have hA8 := hA7.other (Ne.symm hne) 2 (.slice a7 t.2.length c7)
  have K8 : Kp (fun k => k = G ∨ k = w.heap.size) w7 (w7.setCell ⟨G, 2, none⟩ (.slice a7 t.2.length c7)) := (Kp.refl _ w7).setCell (x := ⟨G, 2, none⟩) (.inl (.inl rfl)) _
  have hR8 := hR7.keep K8 (fun k hk e => hd7 k e hk)
  have hr8 := K8.rdB hf7.rd hnot
  have B8 := B7.setCell (p := ⟨G, 2, none⟩) hGA (.slice a7 t.2.length c7)
  clear hE7 hA7 hR7 B7 K8 c0 c1 c2 f0 f1 f2 hf7 ho7 hS7 hS5 hS3
  generalize w7.setCell ⟨G, 2, none⟩ (.slice a7 t.2.length c7) = w8 at *
  refine (rend_any _ _ _ _ _ hR8).mono ?_
  rintro e w9 ⟨rfl, e9⟩
  subst w9
  obtain ⟨c0, c1, c2, f0, f1, f2⟩ := NB.rw3 hE8
  obtain ⟨d0, d1, d2, g0, g1, g2⟩ := NB.rw3 hA8
  have hltA := hA8.lt
  clear hE8 hA8 hR8 hd7 C1 C2 C3 hE hbx hbase hr hl hsz
  by_cases hf : t.1.fin = 0
  · have hfb : (t.1.fin != 0) = false := by simp [hf]
    have hR : R = ((u.2, v.2, t.2), 0) := by rw [HQ.out, if_neg (by simp [hf])]
    have HF := Go.Lib.hid hf; clear hf HQ
    go_wp2_with fail
    refine bodyPost_ret (v := .tuple #[.agg #[.int .u64 (u.2 : Int), .int .u64 (v.2 : Int), .slice a7 t.2.length c7], .int .i64 0]) (by simp [results, Try.results11, go_sem, d0, d1, d2, hltA]) rfl ?_
    rw [hR]
    have BZ := ((B8.setCell (p := ⟨w.heap.size, 0, none⟩) (Nat.le_refl _) (.int .u64 (u.2 : Int))).setCell (p := ⟨w.heap.size, 1, none⟩) (Nat.le_refl _) (.int .u64 (v.2 : Int))).setCell (p := ⟨w.heap.size, 2, none⟩) (Nat.le_refl _) (.slice a7 t.2.length c7)
    have KZ : Kp (fun k => k = G ∨ k = w.heap.size) w8 _ := (((Kp.refl _ w8).setCell (x := ⟨w.heap.size, 0, none⟩) (.inl (.inr rfl)) (.int .u64 (u.2 : Int))).setCell (x := ⟨w.heap.size, 1, none⟩) (.inl (.inr rfl)) (.int .u64 (v.2 : Int))).setCell (x := ⟨w.heap.size, 2, none⟩) (.inl (.inr rfl)) (.slice a7 t.2.length c7)
    exact ⟨a7, t.2.length, c7, rfl, KZ.rdB hr8 hnot, BZ⟩
  · have hfb : (t.1.fin != 0) = true := by simp [hf]
    have hR : R = ((0, 0, []), t.1.fin) := by rw [HQ.out, if_pos hf]
    have HF := Go.Lib.hid hf; clear hf HQ
    go_wp2_with fail
    refine bodyPost_ret (v := .tuple #[.agg #[.int .u64 0, .int .u64 0, .slice none 0 0], .int .i64 t.1.fin]) (by simp [results, Try.results11, go_sem, d0, d1, d2, hltA]) rfl ?_
    rw [hR]
    have BZ := ((B8.setCell (p := ⟨w.heap.size, 0, none⟩) (Nat.le_refl _) (.int .u64 0)).setCell (p := ⟨w.heap.size, 1, none⟩) (Nat.le_refl _) (.int .u64 0)).setCell (p := ⟨w.heap.size, 2, none⟩) (Nat.le_refl _) (.slice none 0 0)
    exact ⟨none, 0, 0, rfl, Rd.nil_mk, BZ⟩
end Go.Proofs.Ythemdfcokphjeaa
