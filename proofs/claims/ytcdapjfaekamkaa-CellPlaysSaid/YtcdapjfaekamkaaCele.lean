/- The cell's Set, walked. -/
import Derived.Test.YtcdapjfaekamkaaCeld
import Derived.Test.YtcdapjfaekamkaaDskg
namespace Go.NB
open Go Go.RowKit
section
variable {tC tB : TypeId} {w w' : World} {base q p : Nat} {v : Value} {c : Ce}
theorem IsCell.put (h : IsCell tC tB w base q p v c) (j : Nat) (u : Value) (c' : Ce) (hrow : (c.row p v).setIfInBounds j u = c'.row p v) (hb : c'.b = c.b) : IsCell tC tB (w.setCell ⟨q, j, none⟩ u) base q p v c' where
  hp := by rw [heap_setCell_same w q j _ tC u h.hp, hrow]
  hv := by
    rw [hb]
    exact (Kp.setCell (F := fun k => k = q) (Kp.refl _ _) (x := ⟨q, j, none⟩) (.inl rfl) u).own h.hv fun k e hk => by subst hk; exact h.nv e
  bq := h.bq
  nv := h.nv
theorem IsCell.putB (h : IsCell tC tB w base q p v c) (v' : Value) (bs : List UInt8) (ho : w.ownsRow base tB 1 v' bs.length (bs.map u8v)) (nv : v'.ownBlock ≠ some q) : IsCell tC tB (w.setCell ⟨q, 5, none⟩ v') base q p v' { c with b := bs } where
  hp := by rw [heap_setCell_same w q 5 _ tC v' h.hp]; rfl
  hv := (Kp.setCell (F := fun k => k = q) (Kp.refl _ _) (x := ⟨q, 5, none⟩) (.inl rfl) v').own ho fun k e hk => by subst hk; exact nv e
  bq := h.bq
  nv := nv
end
theorem Stp.addL {F F' : Nat → Prop} {a b : World} (h : Stp F F' a b) (G : Nat → Prop) : Stp (fun k => G k ∨ F k) (fun k => G k ∨ F' k) a b :=
  ⟨h.kp.imp (fun _ h => .inr h), fun k hk => hk.elim (fun h => .inl (.inl h)) fun h2 => (h.sub k h2).elim (fun h => .inl (.inr h)) .inr⟩
theorem Stp.set {F F' : Nat → Prop} {a b : World} (h : Stp F F' a b) {x : Addr} (hx : F' x.block) (u : Value) : Stp F F' a (b.setCell x u) := ⟨h.kp.setCell (h.sub _ hx) u, h.sub⟩
theorem Dk.write_waits (D : Dk) (i : Int) (b : List UInt8) : (D.write i b).1.waits.length ≤ D.waits.length + 1 := by
  unfold Dk.write
  split
  · exact Nat.le_succ _
  split
  · exact Nat.le_succ _
  split
  · exact Nat.le_succ _
  · simp
/-- What a cell's Set does. -/
def Ce.set (c : Ce) (D : Dk) (laid : Nat → List UInt8 → List UInt8) (bs : List UInt8) : (Ce × Dk) × Int :=
  if 43 < bs.length then ((c, D), 13)
  else if c.e ≠ 0 then ((c, D), c.e)
  else if c.top + 1 = 18446744073709551616 then ((c, D), 37)
  else
    let i := if c.now = 0 then 1 else 0
    let r := D.write ((c.at_ + i : Nat) : Int) (laid (c.top + 1) bs)
    if r.2 ≠ 0 then (({ c with e := r.2 }, r.1), r.2)
    else
      let s := r.1.sync
      if s.2 ≠ 0 then (({ c with e := s.2 }, s.1), s.2)
      else (({ c with e := 0, now := (i : Nat), turn := c.top + 1, top := c.top + 1, b := bs }, s.1), 0)
end Go.NB
namespace Go.Proofs.Ytcdapjfaekamkaa
open Go.RowKit
open Go.NB (Rd Dk Kp Stp Off Dis val Ce footC)

theorem set_nil (w : World) (v : Value) : Calls Try.prog 11 #[.pointer none, v] w fun e w' => e = .returned (.int .i64 1) ∧ w' = w := by
  go_enter Try.func11, Try.ntmps11
  go_wp2
  go_ret
  exact ⟨rfl, rfl⟩

/-- What a call on a cell leaves. -/
def DidC (w : World) (base q p : Nat) (F G : Nat → Prop) (r : (Ce × Dk) × Int) (e : Ending) (w' : World) : Prop :=
  e = .returned (.int .i64 r.2) ∧ ∃ F' G', HasC w' base q p F' r.1.1 ∧ HasD w' base p G' r.1.2 ∧ Dis F' G' ∧ Stp (fun k => F k ∨ G k) (fun k => F' k ∨ G' k) w w'

theorem HasD.setq {w : World} {base p q : Nat} {G : Nat → Prop} {D : Dk} (h : HasD w base p G D) (hq : ¬ G q) (j : Nat) (u : Value) : HasD (w.setCell ⟨q, j, none⟩ u) base p G D :=
  h.keep (Kp.setCell (F := fun k => k = q) (Kp.refl _ _) (x := ⟨q, j, none⟩) (.inl rfl) _) (fun k hg e => hq (e ▸ hg))
theorem own_setq {w : World} {b2 q : Nat} {t : TypeId} {v : Value} {n : Nat} {xs : List Value} (h : w.ownsRow b2 t 1 v n xs) (hn : v.ownBlock ≠ some q) (j : Nat) (u : Value) : (w.setCell ⟨q, j, none⟩ u).ownsRow b2 t 1 v n xs :=
  (Kp.setCell (F := fun k => k = q) (Kp.refl _ _) (x := ⟨q, j, none⟩) (.inl rfl) u).own h fun k e hk => by subst hk; exact hn e

set_option maxRecDepth 100000 in
set_option maxHeartbeats 2000000 in
theorem set_any (w : World) (base q p : Nat) (F G : Nat → Prop) (c : Ce) (D : Dk) (a : Option Addr) (n cp : Nat) (bs : List UInt8) (hC : HasC w base q p F c) (hD : HasD w base p G D) (hFG : Dis F G)
    (hb : Off (fun k => F k ∨ G k) w a n cp bs) (hn : n ≤ 100000) (hat : c.at_ ≤ 1000000) (htop : c.top < 18446744073709551616) (hwn : D.waits.length ≤ 100000) :
    Calls Try.prog 11 #[.pointer (some ⟨q, 0, none⟩), .slice a n cp] w (DidC w base q p F G (c.set D laidL bs)) := by
  obtain ⟨v, hC, rfl⟩ := hC
  obtain rfl : n = bs.length := (NB.RdB.size hb.rd).symm
  have c0 : w.cell? ⟨q, 0, none⟩ = some (.pointer (some ⟨p, 0, none⟩)) := hC.cell 0 _ rfl
  have c1 : w.cell? ⟨q, 1, none⟩ = some (.int .i64 (c.at_ : Int)) := hC.cell 1 _ rfl
  have c2 : w.cell? ⟨q, 2, none⟩ = some (.int .i64 c.now) := hC.cell 2 _ rfl
  have c4 : w.cell? ⟨q, 4, none⟩ = some (.int .u64 (c.top : Int)) := hC.cell 4 _ rfl
  have c6 : w.cell? ⟨q, 6, none⟩ = some (.int .i64 c.e) := hC.cell 6 _ rfl
  have hbd := Rd.bound hb.rd
  have hst : ∀ F, Stp F F w w := fun F => Stp.refl F w
  by_cases h43 : 43 < bs.length
  · have hq : c.set D laidL bs = ((c, D), 13) := by simp [Ce.set, h43]
    rw [hq]; clear hq
    have h43i : (43 : Int) < (bs.length : Int) := by omega
    go_enter Try.func11, Try.ntmps11
    go_wp2_with fail
    go_ret
    exact ⟨rfl, _, _, ⟨v, hC, rfl⟩, hD, hFG, hst _⟩
  have h43i : ¬ (43 : Int) < (bs.length : Int) := by omega
  by_cases he : c.e = 0
  case neg =>
    have hq : c.set D laidL bs = ((c, D), c.e) := by simp [Ce.set, h43, he]
    rw [hq]; clear hq
    go_enter Try.func11, Try.ntmps11
    go_wp2_with fail
    go_ret
    exact ⟨rfl, _, _, ⟨v, hC, rfl⟩, hD, hFG, hst _⟩
  by_cases ht : c.top + 1 = 18446744073709551616
  · have hq : c.set D laidL bs = ((c, D), 37) := by simp [Ce.set, h43, he, ht]
    rw [hq]; clear hq
    have hti : IntKind.u64.wrap ((c.top : Int) + 1) = 0 := by rw [IntKind.wrap_u64]; omega
    rw [he] at c6
    go_enter Try.func11, Try.ntmps11
    go_wp2_with fail
    go_ret
    exact ⟨rfl, _, _, ⟨v, hC, rfl⟩, hD, hFG, hst _⟩
  rw [he] at c6
  obtain ⟨T, hT⟩ : ∃ T, c.top + 1 = T := ⟨_, rfl⟩
  have hTi : (c.top : Int) + 1 = (T : Int) := by omega
  have hw : IntKind.u64.wrap (T : Int) = (T : Int) := by rw [IntKind.wrap_u64]; omega
  have hT0 : ¬ (T : Int) = 0 := by omega
  have hset : c.set D laidL bs = (let i := if c.now = 0 then 1 else 0
    let r := D.write ((c.at_ + i : Nat) : Int) (laidL T bs)
    if r.2 ≠ 0 then (({ c with e := r.2 }, r.1), r.2)
    else
      let s := r.1.sync
      if s.2 ≠ 0 then (({ c with e := s.2 }, s.1), s.2)
      else (({ c with e := 0, now := (i : Nat), turn := T, top := T, b := bs }, s.1), 0)) := by
    rw [← hT]; simp [Ce.set, h43, he, ht]
  generalize c.set D laidL bs = R at *
  have HSET := Go.Lib.hid hset
  clear hset
  by_cases hnow : c.now = 0
  · have hnowb : (c.now == 0) = true := by simpa using hnow
    obtain ⟨N, hN⟩ : ∃ N, c.at_ + 1 = N := ⟨_, rfl⟩
    have hNi : (c.at_ : Int) + 1 = (N : Int) := by omega
    go_enter Try.func11, Try.ntmps11
    go_wp2_with fail
    refine NB.wp_region_t [18, 21] (by kernel_rfl) ?_
    have hC1 := hC.below (Below.refl _ w).drew
    have hD1 := hD.below (Below.refl _ w).drew
    have hb1 := hb.below (Below.refl _ w).drew
    have hS1 : Stp (fun k => footC q v k ∨ G k) (fun k => footC q v k ∨ G k) w w.drew := Stp.of_below (Below.refl _ w).drew
    have c0 : w.drew.cell? ⟨q, 0, none⟩ = some (.pointer (some ⟨p, 0, none⟩)) := hC1.cell 0 _ rfl
    have c1 : w.drew.cell? ⟨q, 1, none⟩ = some (.int .i64 (c.at_ : Int)) := hC1.cell 1 _ rfl
    have c4 : w.drew.cell? ⟨q, 4, none⟩ = some (.int .u64 (c.top : Int)) := hC1.cell 4 _ rfl
    generalize w.drew = w1 at *
    refine NB.t_p 0 rfl (by kernel_rfl) (fun K hK => ?_); go_simp; refine hK _ ?_; clear hK K
    refine NB.t_p 1 rfl (by kernel_rfl) (fun K hK => ?_); go_simp; refine hK _ ?_; clear hK K
    refine NB.t_p 2 rfl (by kernel_rfl) (fun K hK => ?_); go_simp; refine hK _ ?_; clear hK K
    refine NB.t_p 3 rfl (by kernel_rfl) (fun K hK => ?_); go_simp; refine hK _ ?_; clear hK K
    refine NB.t_r 4 [18, 19, 20, 21] rfl (by kernel_rfl) (by kernel_rfl) rfl _ (fun w' hw' => NB.run_op_load rfl rfl Try.underlying25 rfl (c0) hw') (fun K hK => ?_); go_simp; refine hK _ ?_; clear hK K
    refine NB.t_p 5 rfl (by kernel_rfl) (fun K hK => ?_); go_simp; refine hK _ ?_; clear hK K
    refine NB.t_p 6 rfl (by kernel_rfl) (fun K hK => ?_); go_simp; refine hK _ ?_; clear hK K
    refine NB.t_p 7 rfl (by kernel_rfl) (fun K hK => ?_); go_simp; refine hK _ ?_; clear hK K
    refine NB.t_r 8 [10, 18, 19, 20, 21] rfl (by kernel_rfl) (by kernel_rfl) rfl _ (fun w' hw' => NB.run_op_load rfl rfl Try.underlying3 rfl (c1) hw') (fun K hK => ?_); go_simp; refine hK _ ?_; clear hK K
    refine NB.t_p 9 rfl (by kernel_rfl) (fun K hK => ?_); go_simp; refine hK _ ?_; clear hK K
    refine NB.t_p 10 rfl (by kernel_rfl) (fun K hK => ?_); go_simp; refine hK _ ?_; clear hK K
    refine NB.t_p 11 rfl (by kernel_rfl) (fun K hK => ?_); go_simp; refine hK _ ?_; clear hK K
    refine NB.t_p 12 rfl (by kernel_rfl) (fun K hK => ?_); go_simp; refine hK _ ?_; clear hK K
    refine NB.t_p 13 rfl (by kernel_rfl) (fun K hK => ?_); go_simp; refine hK _ ?_; clear hK K
    refine NB.t_r 14 [15, 17, 18, 19, 20, 21] rfl (by kernel_rfl) (by kernel_rfl) rfl _ (fun w' hw' => NB.run_op_load rfl rfl Try.underlying33 rfl (c4) hw') (fun K hK => ?_); go_simp; refine hK _ ?_; clear hK K
    refine NB.t_p 15 rfl (by kernel_rfl) (fun K hK => ?_); go_simp; refine hK _ ?_; clear hK K
    refine NB.t_p 16 rfl (by kernel_rfl) (fun K hK => ?_); go_simp; refine hK _ ?_; clear hK K
    refine NB.t_e 17 rfl (by kernel_rfl) (by kernel_rfl) (fun K hK => ?_); unfold NB.tmoves; go_simp; refine (laid_any _ T _ _ _ bs hb1.rd (by omega) (by omega)).mono ?_; rintro e w2 ⟨a2, k2, rfl, ho2, hb2⟩; refine ⟨_, rfl, hb2, hK _ _ ?_⟩; clear hK K
    refine NB.t_w 18 rfl (by kernel_rfl) (by kernel_rfl) rfl (fun Q' hK => ?_)
    have hC2 := hC1.below hb2
    have hD2 := hD1.below hb2
    have hll : (laidL T bs).length = 64 := laidL_len T bs (by omega)
    generalize laidL T bs = B at *
    have hof2 : Off G w2 a2 B.length k2 B := Off.fresh ho2 (fun k hk => (hD1.foot k hk).2)
    rw [hll] at hof2
    have hS2 : Stp (fun k => footC q v k ∨ G k) (fun k => footC q v k ∨ G k) w w2 := hS1.trans (Stp.of_below hb2)
    have hb2' := hb1.below hb2
    clear hb1 hS1 hC1 hD1 c0 c1 c2 c4 c6
    obtain ⟨D1, e1, hr1⟩ : ∃ D1 e1, D.write ((N : Nat) : Int) B = (D1, e1) := ⟨_, _, rfl⟩
    go_wp2_with (first
      | (go_at_call 23; refine (dwrite_any _ _ _ _ _ ((N : Nat) : Int) _ _ _ _ hD2 hof2 (by omega)).mono ?_; rw [hr1]; rintro e w3 ⟨rfl, G3, hD3, hS3⟩; have hC3 := hC2.keep hS3.kp hFG; have c6 : w3.cell? ⟨q, 6, none⟩ = some (.int .i64 c.e) := hC3.cell 6 _ rfl; have f6 := hC3.free 6))
    refine NB.t_p 19 rfl (by kernel_rfl) (fun K hK => ?_); go_simp; refine hK _ ?_; clear hK K
    refine NB.t_p 20 rfl (by kernel_rfl) (fun K hK => ?_); go_simp; refine hK _ ?_; clear hK K
    refine NB.t_w 21 rfl (by kernel_rfl) (by kernel_rfl) rfl (fun Q' hK => ?_)
    go_wp2_with fail
    refine NB.t_end (by kernel_rfl) ?_
    have hnq : ¬ G3 q := fun hq => hFG.step (fun k hk => (hC2.foot k hk).2) hS3 q (.inl rfl) hq
    have hF3 : Dis (footC q v) G3 := hFG.step (fun k hk => (hC2.foot k hk).2) hS3
    have hS4 := (hS2.trans (hS3.addL (footC q v))).set (x := ⟨q, 6, none⟩) (.inl (.inl rfl)) (.int .i64 e1)
    have hC4 : IsC (w3.setCell ⟨q, 6, none⟩ (.int .i64 e1)) base q p v { c with e := e1 } := hC3.put 6 (.int .i64 e1) { c with e := e1 } rfl rfl
    have hD4 : HasD (w3.setCell ⟨q, 6, none⟩ (.int .i64 e1)) base p G3 D1 := hD3.keep (Kp.setCell (F := fun k => k = q) (Kp.refl _ _) (x := ⟨q, 6, none⟩) (.inl rfl) _) (fun k hg e => hnq (e ▸ hg))
    have hww := NB.Dk.write_waits D (N : Int) B
    rw [hr1] at hww
    clear c6 f6 hC3 hD3 hC2 hD2 hof2 hb2' hS2 hS3
    generalize w3.setCell ⟨q, 6, none⟩ (.int .i64 e1) = w4 at *
    have c0 : w4.cell? ⟨q, 0, none⟩ = some (.pointer (some ⟨p, 0, none⟩)) := hC4.cell 0 _ rfl
    have c6 : w4.cell? ⟨q, 6, none⟩ = some (.int .i64 e1) := hC4.cell 6 _ rfl
    by_cases he1 : e1 = 0
    case neg =>
      have he1b : (e1 == 0) = false := by simpa using he1
      have hR := HSET.out
      simp only [if_pos hnow, hN, hr1, he1, ne_eq, not_false_eq_true, if_true, if_false] at hR
      clear HSET
      have HR := Go.Lib.hid hR; clear hR
      go_wp2_with fail
      go_ret
      rw [HR.out]
      exact ⟨rfl, _, _, ⟨v, hC4, rfl⟩, hD4, hF3, hS4⟩
    subst he1
    obtain ⟨D2, e2, hr2⟩ : ∃ D2 e2, D1.sync = (D2, e2) := ⟨_, _, rfl⟩
    have hb4 := hb.step hS4
    by_cases he2 : e2 = 0
    case neg =>
      have he2b : (e2 == 0) = false := by simpa using he2
      have hR := HSET.out
      simp only [if_pos hnow, hN, hr1, hr2, he2, ne_eq, not_true_eq_false, not_false_eq_true, if_true, if_false] at hR
      clear HSET
      have HR := Go.Lib.hid hR; clear hR
      go_wp2_with (first
        | (go_at_call 33; refine (dsync_any _ _ _ _ _ hD4 (by simp at hww; omega)).mono ?_; rw [hr2]; rintro e w5 ⟨rfl, G5, hD5, hS5⟩; have hC5 := hC4.keep hS5.kp hF3; have c6' : w5.cell? ⟨q, 6, none⟩ = some (.int .i64 0) := hC5.cell 6 _ rfl; have f6' := hC5.free 6))
      go_ret
      rw [HR.out]
      have hF5 : Dis (footC q v) G5 := hF3.step (fun k hk => (hC4.foot k hk).2) hS5
      refine ⟨rfl, _, G5, ⟨v, hC5.put 6 (.int .i64 e2) { c with e := e2 } rfl rfl, rfl⟩, hD5.keep (Kp.setCell (F := fun k => k = q) (Kp.refl _ _) (x := ⟨q, 6, none⟩) (.inl rfl) _) (fun k hg e => hF5 q (.inl rfl) (e ▸ hg)), hF5, (hS4.trans (hS5.addL (footC q v))).set (x := ⟨q, 6, none⟩) (.inl (.inl rfl)) _⟩
    subst he2
    have hR := HSET.out
    simp only [if_pos hnow, hN, hr1, hr2, ne_eq, not_true_eq_false, not_false_eq_true, if_true, if_false] at hR
    clear HSET
    have HR := Go.Lib.hid hR; clear hR
    go_wp2_with (first
      | (go_at_call 33; refine (dsync_any _ _ _ _ _ hD4 (by simp at hww; omega)).mono ?_; rw [hr2]; rintro e w5 ⟨rfl, G5, hD5, hS5⟩; have hC5 := hC4.keep hS5.kp hF3; have c6' : w5.cell? ⟨q, 6, none⟩ = some (.int .i64 0) := hC5.cell 6 _ rfl; have f6' := hC5.free 6))
    have hF5 : Dis (footC q v) G5 := hF3.step (fun k hk => (hC4.foot k hk).2) hS5
    have hS6 := (hS4.trans (hS5.addL (footC q v))).set (x := ⟨q, 6, none⟩) (.inl (.inl rfl)) (.int .i64 0)
    have hC6 : IsC (w5.setCell ⟨q, 6, none⟩ (.int .i64 0)) base q p v { c with e := 0 } := hC5.put 6 (.int .i64 0) { c with e := 0 } rfl rfl
    have hD6 : HasD (w5.setCell ⟨q, 6, none⟩ (.int .i64 0)) base p G5 D2 := hD5.keep (Kp.setCell (F := fun k => k = q) (Kp.refl _ _) (x := ⟨q, 6, none⟩) (.inl rfl) _) (fun k hg e => hF5 q (.inl rfl) (e ▸ hg))
    have hb6 := hb.step hS6
    clear hb4 hS4 hS5 hC4 hD4 hC5 hD5 c0 c6 c6' f6'
    generalize w5.setCell ⟨q, 6, none⟩ (.int .i64 0) = w6 at *
    refine NB.wp_region_t [19, 22, 25, 28] (by kernel_rfl) ?_
    have hC7 := hC6.below (Below.refl _ w6).drew
    have hD7 := hD6.below (Below.refl _ w6).drew
    have hb7 := hb6.below (Below.refl _ w6).drew
    have hS7 : Stp (fun k => footC q v k ∨ G k) (fun k => footC q v k ∨ G5 k) w w6.drew := hS6.trans (Stp.of_below (Below.refl _ w6).drew)
    clear hC6 hD6 hb6 hS6
    have c4 : w6.drew.cell? ⟨q, 4, none⟩ = some (.int .u64 (c.top : Int)) := hC7.cell 4 _ rfl
    generalize w6.drew = w7 at *
    refine NB.t_p 0 rfl (by kernel_rfl) (fun K hK => ?_); go_simp; refine hK _ ?_; clear hK K
    refine NB.t_p 1 rfl (by kernel_rfl) (fun K hK => ?_); go_simp; refine hK _ ?_; clear hK K
    refine NB.t_p 2 rfl (by kernel_rfl) (fun K hK => ?_); go_simp; refine hK _ ?_; clear hK K
    refine NB.t_p 3 rfl (by kernel_rfl) (fun K hK => ?_); go_simp; refine hK _ ?_; clear hK K
    refine NB.t_p 4 rfl (by kernel_rfl) (fun K hK => ?_); go_simp; refine hK _ ?_; clear hK K
    refine NB.t_p 5 rfl (by kernel_rfl) (fun K hK => ?_); go_simp; refine hK _ ?_; clear hK K
    refine NB.t_p 6 rfl (by kernel_rfl) (fun K hK => ?_); go_simp; refine hK _ ?_; clear hK K
    refine NB.t_p 7 rfl (by kernel_rfl) (fun K hK => ?_); go_simp; refine hK _ ?_; clear hK K
    refine NB.t_r 8 [9, 17, 18, 19, 20, 21, 22, 23, 24, 25, 26, 27, 28] rfl (by kernel_rfl) (by kernel_rfl) rfl _ (fun w' hw' => NB.run_op_load rfl rfl Try.underlying33 rfl (c4) hw') (fun K hK => ?_); go_simp; refine hK _ ?_; clear hK K
    refine NB.t_p 9 rfl (by kernel_rfl) (fun K hK => ?_); go_simp; refine hK _ ?_; clear hK K
    refine NB.t_p 10 rfl (by kernel_rfl) (fun K hK => ?_); go_simp; refine hK _ ?_; clear hK K
    refine NB.t_p 11 rfl (by kernel_rfl) (fun K hK => ?_); go_simp; refine hK _ ?_; clear hK K
    refine NB.t_p 12 rfl (by kernel_rfl) (fun K hK => ?_); go_simp; refine hK _ ?_; clear hK K
    refine NB.t_r 13 [14, 17, 18, 19, 20, 21, 22, 23, 24, 25, 26, 27, 28] rfl (by kernel_rfl) (by kernel_rfl) rfl _ (fun w' hw' => NB.run_op_load rfl rfl Try.underlying33 rfl (c4) hw') (fun K hK => ?_); go_simp; refine hK _ ?_; clear hK K
    refine NB.t_p 14 rfl (by kernel_rfl) (fun K hK => ?_); go_simp; refine hK _ ?_; clear hK K
    refine NB.t_p 15 rfl (by kernel_rfl) (fun K hK => ?_); go_simp; refine hK _ ?_; clear hK K
    refine NB.t_e 16 rfl (by kernel_rfl) (by kernel_rfl) (fun K hK => ?_); unfold NB.tmoves; go_simp; refine (clone_any _ _ _ _ bs hb7.rd (by omega)).mono ?_; rintro e w8 ⟨a8, k8, rfl, ho8, hb8⟩; refine ⟨_, rfl, hb8, hK _ _ ?_⟩; clear hK K
    refine NB.t_p 17 rfl (by kernel_rfl) (fun K hK => ?_); go_simp; refine hK _ ?_; clear hK K
    refine NB.t_p 18 rfl (by kernel_rfl) (fun K hK => ?_); go_simp; refine hK _ ?_; clear hK K
    refine NB.t_w 19 rfl (by kernel_rfl) (by kernel_rfl) rfl (fun Q' hK => ?_)
    have hC8 := hC7.below hb8
    have hD8 := hD7.below hb8
    have hS8 := hS7.trans (Stp.of_below hb8)
    have hnv : (Value.slice a8 bs.length k8).ownBlock ≠ some q := fun e => by
      have := (ho8.lt q e).1
      have := hC7.lt
      omega
    have hfr : ∀ k, (Value.slice a8 bs.length k8).ownBlock = some k → ¬ G5 k := fun k e hg => by
      have := (ho8.lt k e).1
      have := (hD7.foot k hg).2
      omega
    have hfw : ∀ k, (Value.slice a8 bs.length k8).ownBlock = some k → w.heap.size ≤ k := fun k e => by
      have := (ho8.lt k e).1
      have := hS7.size
      omega
    replace ho8 := NB.own_mono ho8 hC7.base_le
    clear hC7 hD7 hS7 hb7 c4
    have c2 : w8.cell? ⟨q, 2, none⟩ = some (.int .i64 c.now) := hC8.cell 2 _ rfl
    have f2 := hC8.free 2
    go_wp2_with fail
    have hC9 : IsC (w8.setCell ⟨q, 2, none⟩ (.int .i64 1)) base q p v { c with e := 0, now := ((1 : Nat) : Int) } := hC8.put 2 _ _ rfl rfl
    have hD9 := hD8.setq (hF5 q (.inl rfl)) 2 (.int .i64 1)
    have ho9 := own_setq ho8 hnv 2 (.int .i64 1)
    have hS9 := hS8.set (x := ⟨q, 2, none⟩) (.inl (.inl rfl)) (.int .i64 1)
    clear c2 f2 hC8 hD8 ho8 hS8
    generalize w8.setCell ⟨q, 2, none⟩ (.int .i64 1) = w9 at *
    refine NB.t_p 20 rfl (by kernel_rfl) (fun K hK => ?_); go_simp; refine hK _ ?_; clear hK K
    refine NB.t_p 21 rfl (by kernel_rfl) (fun K hK => ?_); go_simp; refine hK _ ?_; clear hK K
    refine NB.t_w 22 rfl (by kernel_rfl) (by kernel_rfl) rfl (fun Q' hK => ?_)
    have c3 : w9.cell? ⟨q, 3, none⟩ = some (.int .u64 (c.turn : Int)) := hC9.cell 3 _ rfl
    have f3 := hC9.free 3
    go_wp2_with fail
    have hC10 : IsC (w9.setCell ⟨q, 3, none⟩ (.int .u64 (T : Int))) base q p v { c with e := 0, now := ((1 : Nat) : Int), turn := T } := hC9.put 3 _ _ rfl rfl
    have hD10 := hD9.setq (hF5 q (.inl rfl)) 3 (.int .u64 (T : Int))
    have ho10 := own_setq ho9 hnv 3 (.int .u64 (T : Int))
    have hS10 := hS9.set (x := ⟨q, 3, none⟩) (.inl (.inl rfl)) (.int .u64 (T : Int))
    clear c3 f3 hC9 hD9 ho9 hS9
    generalize w9.setCell ⟨q, 3, none⟩ (.int .u64 (T : Int)) = w10 at *
    refine NB.t_p 23 rfl (by kernel_rfl) (fun K hK => ?_); go_simp; refine hK _ ?_; clear hK K
    refine NB.t_p 24 rfl (by kernel_rfl) (fun K hK => ?_); go_simp; refine hK _ ?_; clear hK K
    refine NB.t_w 25 rfl (by kernel_rfl) (by kernel_rfl) rfl (fun Q' hK => ?_)
    have c4 : w10.cell? ⟨q, 4, none⟩ = some (.int .u64 (c.top : Int)) := hC10.cell 4 _ rfl
    have f4 := hC10.free 4
    go_wp2_with fail
    have hC11 : IsC (w10.setCell ⟨q, 4, none⟩ (.int .u64 (T : Int))) base q p v { c with e := 0, now := ((1 : Nat) : Int), turn := T, top := T } := hC10.put 4 _ _ rfl rfl
    have hD11 := hD10.setq (hF5 q (.inl rfl)) 4 (.int .u64 (T : Int))
    have ho11 := own_setq ho10 hnv 4 (.int .u64 (T : Int))
    have hS11 := hS10.set (x := ⟨q, 4, none⟩) (.inl (.inl rfl)) (.int .u64 (T : Int))
    clear c4 f4 hC10 hD10 ho10 hS10
    generalize w10.setCell ⟨q, 4, none⟩ (.int .u64 (T : Int)) = w11 at *
    refine NB.t_p 26 rfl (by kernel_rfl) (fun K hK => ?_); go_simp; refine hK _ ?_; clear hK K
    refine NB.t_p 27 rfl (by kernel_rfl) (fun K hK => ?_); go_simp; refine hK _ ?_; clear hK K
    refine NB.t_w 28 rfl (by kernel_rfl) (by kernel_rfl) rfl (fun Q' hK => ?_)
    have c5 : w11.cell? ⟨q, 5, none⟩ = some v := hC11.cell 5 _ rfl
    have f5 := hC11.free 5
    go_wp2_with fail
    refine NB.t_end (by kernel_rfl) ?_
    go_wp2_with fail
    go_ret
    rw [HR.out]
    refine ⟨rfl, _, G5, ⟨_, hC11.putB _ bs ho11 hnv, rfl⟩, hD11.setq (hF5 q (.inl rfl)) 5 _, ?_, ?_⟩
    · intro k hk
      rcases hk with rfl | hk
      · exact hF5 k (.inl rfl)
      · exact hfr k hk
    · have h12 := hS11.set (x := ⟨q, 5, none⟩) (.inl (.inl rfl)) (.slice a8 bs.length k8)
      refine ⟨h12.kp, fun k hk => ?_⟩
      rcases hk with (rfl | hk) | hk
      · exact .inl (.inl (.inl rfl))
      · exact .inr (hfw k hk)
      · exact h12.sub k (.inr hk)
  · have hnowb : (c.now == 0) = false := by simpa using hnow
    obtain ⟨N, hN⟩ : ∃ N, c.at_ + 0 = N := ⟨_, rfl⟩
    have hNi : (c.at_ : Int) = (N : Int) := by omega
    go_enter Try.func11, Try.ntmps11
    go_wp2_with fail
    refine NB.wp_region_t [18, 21] (by kernel_rfl) ?_
    have hC1 := hC.below (Below.refl _ w).drew
    have hD1 := hD.below (Below.refl _ w).drew
    have hb1 := hb.below (Below.refl _ w).drew
    have hS1 : Stp (fun k => footC q v k ∨ G k) (fun k => footC q v k ∨ G k) w w.drew := Stp.of_below (Below.refl _ w).drew
    have c0 : w.drew.cell? ⟨q, 0, none⟩ = some (.pointer (some ⟨p, 0, none⟩)) := hC1.cell 0 _ rfl
    have c1 : w.drew.cell? ⟨q, 1, none⟩ = some (.int .i64 (c.at_ : Int)) := hC1.cell 1 _ rfl
    have c4 : w.drew.cell? ⟨q, 4, none⟩ = some (.int .u64 (c.top : Int)) := hC1.cell 4 _ rfl
    generalize w.drew = w1 at *
    refine NB.t_p 0 rfl (by kernel_rfl) (fun K hK => ?_); go_simp; refine hK _ ?_; clear hK K
    refine NB.t_p 1 rfl (by kernel_rfl) (fun K hK => ?_); go_simp; refine hK _ ?_; clear hK K
    refine NB.t_p 2 rfl (by kernel_rfl) (fun K hK => ?_); go_simp; refine hK _ ?_; clear hK K
    refine NB.t_p 3 rfl (by kernel_rfl) (fun K hK => ?_); go_simp; refine hK _ ?_; clear hK K
    refine NB.t_r 4 [18, 19, 20, 21] rfl (by kernel_rfl) (by kernel_rfl) rfl _ (fun w' hw' => NB.run_op_load rfl rfl Try.underlying25 rfl (c0) hw') (fun K hK => ?_); go_simp; refine hK _ ?_; clear hK K
    refine NB.t_p 5 rfl (by kernel_rfl) (fun K hK => ?_); go_simp; refine hK _ ?_; clear hK K
    refine NB.t_p 6 rfl (by kernel_rfl) (fun K hK => ?_); go_simp; refine hK _ ?_; clear hK K
    refine NB.t_p 7 rfl (by kernel_rfl) (fun K hK => ?_); go_simp; refine hK _ ?_; clear hK K
    refine NB.t_r 8 [10, 18, 19, 20, 21] rfl (by kernel_rfl) (by kernel_rfl) rfl _ (fun w' hw' => NB.run_op_load rfl rfl Try.underlying3 rfl (c1) hw') (fun K hK => ?_); go_simp; refine hK _ ?_; clear hK K
    refine NB.t_p 9 rfl (by kernel_rfl) (fun K hK => ?_); go_simp; refine hK _ ?_; clear hK K
    refine NB.t_p 10 rfl (by kernel_rfl) (fun K hK => ?_); go_simp; refine hK _ ?_; clear hK K
    refine NB.t_p 11 rfl (by kernel_rfl) (fun K hK => ?_); go_simp; refine hK _ ?_; clear hK K
    refine NB.t_p 12 rfl (by kernel_rfl) (fun K hK => ?_); go_simp; refine hK _ ?_; clear hK K
    refine NB.t_p 13 rfl (by kernel_rfl) (fun K hK => ?_); go_simp; refine hK _ ?_; clear hK K
    refine NB.t_r 14 [15, 17, 18, 19, 20, 21] rfl (by kernel_rfl) (by kernel_rfl) rfl _ (fun w' hw' => NB.run_op_load rfl rfl Try.underlying33 rfl (c4) hw') (fun K hK => ?_); go_simp; refine hK _ ?_; clear hK K
    refine NB.t_p 15 rfl (by kernel_rfl) (fun K hK => ?_); go_simp; refine hK _ ?_; clear hK K
    refine NB.t_p 16 rfl (by kernel_rfl) (fun K hK => ?_); go_simp; refine hK _ ?_; clear hK K
    refine NB.t_e 17 rfl (by kernel_rfl) (by kernel_rfl) (fun K hK => ?_); unfold NB.tmoves; go_simp; refine (laid_any _ T _ _ _ bs hb1.rd (by omega) (by omega)).mono ?_; rintro e w2 ⟨a2, k2, rfl, ho2, hb2⟩; refine ⟨_, rfl, hb2, hK _ _ ?_⟩; clear hK K
    refine NB.t_w 18 rfl (by kernel_rfl) (by kernel_rfl) rfl (fun Q' hK => ?_)
    have hC2 := hC1.below hb2
    have hD2 := hD1.below hb2
    have hll : (laidL T bs).length = 64 := laidL_len T bs (by omega)
    generalize laidL T bs = B at *
    have hof2 : Off G w2 a2 B.length k2 B := Off.fresh ho2 (fun k hk => (hD1.foot k hk).2)
    rw [hll] at hof2
    have hS2 : Stp (fun k => footC q v k ∨ G k) (fun k => footC q v k ∨ G k) w w2 := hS1.trans (Stp.of_below hb2)
    have hb2' := hb1.below hb2
    clear hb1 hS1 hC1 hD1 c0 c1 c2 c4 c6
    obtain ⟨D1, e1, hr1⟩ : ∃ D1 e1, D.write ((N : Nat) : Int) B = (D1, e1) := ⟨_, _, rfl⟩
    go_wp2_with (first
      | (go_at_call 23; refine (dwrite_any _ _ _ _ _ ((N : Nat) : Int) _ _ _ _ hD2 hof2 (by omega)).mono ?_; rw [hr1]; rintro e w3 ⟨rfl, G3, hD3, hS3⟩; have hC3 := hC2.keep hS3.kp hFG; have c6 : w3.cell? ⟨q, 6, none⟩ = some (.int .i64 c.e) := hC3.cell 6 _ rfl; have f6 := hC3.free 6))
    refine NB.t_p 19 rfl (by kernel_rfl) (fun K hK => ?_); go_simp; refine hK _ ?_; clear hK K
    refine NB.t_p 20 rfl (by kernel_rfl) (fun K hK => ?_); go_simp; refine hK _ ?_; clear hK K
    refine NB.t_w 21 rfl (by kernel_rfl) (by kernel_rfl) rfl (fun Q' hK => ?_)
    go_wp2_with fail
    refine NB.t_end (by kernel_rfl) ?_
    have hnq : ¬ G3 q := fun hq => hFG.step (fun k hk => (hC2.foot k hk).2) hS3 q (.inl rfl) hq
    have hF3 : Dis (footC q v) G3 := hFG.step (fun k hk => (hC2.foot k hk).2) hS3
    have hS4 := (hS2.trans (hS3.addL (footC q v))).set (x := ⟨q, 6, none⟩) (.inl (.inl rfl)) (.int .i64 e1)
    have hC4 : IsC (w3.setCell ⟨q, 6, none⟩ (.int .i64 e1)) base q p v { c with e := e1 } := hC3.put 6 (.int .i64 e1) { c with e := e1 } rfl rfl
    have hD4 : HasD (w3.setCell ⟨q, 6, none⟩ (.int .i64 e1)) base p G3 D1 := hD3.keep (Kp.setCell (F := fun k => k = q) (Kp.refl _ _) (x := ⟨q, 6, none⟩) (.inl rfl) _) (fun k hg e => hnq (e ▸ hg))
    have hww := NB.Dk.write_waits D (N : Int) B
    rw [hr1] at hww
    clear c6 f6 hC3 hD3 hC2 hD2 hof2 hb2' hS2 hS3
    generalize w3.setCell ⟨q, 6, none⟩ (.int .i64 e1) = w4 at *
    have c0 : w4.cell? ⟨q, 0, none⟩ = some (.pointer (some ⟨p, 0, none⟩)) := hC4.cell 0 _ rfl
    have c6 : w4.cell? ⟨q, 6, none⟩ = some (.int .i64 e1) := hC4.cell 6 _ rfl
    by_cases he1 : e1 = 0
    case neg =>
      have he1b : (e1 == 0) = false := by simpa using he1
      have hR := HSET.out
      simp only [if_neg hnow, hN, hr1, he1, ne_eq, not_false_eq_true, if_true, if_false] at hR
      clear HSET
      have HR := Go.Lib.hid hR; clear hR
      go_wp2_with fail
      go_ret
      rw [HR.out]
      exact ⟨rfl, _, _, ⟨v, hC4, rfl⟩, hD4, hF3, hS4⟩
    subst he1
    obtain ⟨D2, e2, hr2⟩ : ∃ D2 e2, D1.sync = (D2, e2) := ⟨_, _, rfl⟩
    have hb4 := hb.step hS4
    by_cases he2 : e2 = 0
    case neg =>
      have he2b : (e2 == 0) = false := by simpa using he2
      have hR := HSET.out
      simp only [if_neg hnow, hN, hr1, hr2, he2, ne_eq, not_true_eq_false, not_false_eq_true, if_true, if_false] at hR
      clear HSET
      have HR := Go.Lib.hid hR; clear hR
      go_wp2_with (first
        | (go_at_call 33; refine (dsync_any _ _ _ _ _ hD4 (by simp at hww; omega)).mono ?_; rw [hr2]; rintro e w5 ⟨rfl, G5, hD5, hS5⟩; have hC5 := hC4.keep hS5.kp hF3; have c6' : w5.cell? ⟨q, 6, none⟩ = some (.int .i64 0) := hC5.cell 6 _ rfl; have f6' := hC5.free 6))
      go_ret
      rw [HR.out]
      have hF5 : Dis (footC q v) G5 := hF3.step (fun k hk => (hC4.foot k hk).2) hS5
      refine ⟨rfl, _, G5, ⟨v, hC5.put 6 (.int .i64 e2) { c with e := e2 } rfl rfl, rfl⟩, hD5.keep (Kp.setCell (F := fun k => k = q) (Kp.refl _ _) (x := ⟨q, 6, none⟩) (.inl rfl) _) (fun k hg e => hF5 q (.inl rfl) (e ▸ hg)), hF5, (hS4.trans (hS5.addL (footC q v))).set (x := ⟨q, 6, none⟩) (.inl (.inl rfl)) _⟩
    subst he2
    have hR := HSET.out
    simp only [if_neg hnow, hN, hr1, hr2, ne_eq, not_true_eq_false, not_false_eq_true, if_true, if_false] at hR
    clear HSET
    have HR := Go.Lib.hid hR; clear hR
    go_wp2_with (first
      | (go_at_call 33; refine (dsync_any _ _ _ _ _ hD4 (by simp at hww; omega)).mono ?_; rw [hr2]; rintro e w5 ⟨rfl, G5, hD5, hS5⟩; have hC5 := hC4.keep hS5.kp hF3; have c6' : w5.cell? ⟨q, 6, none⟩ = some (.int .i64 0) := hC5.cell 6 _ rfl; have f6' := hC5.free 6))
    have hF5 : Dis (footC q v) G5 := hF3.step (fun k hk => (hC4.foot k hk).2) hS5
    have hS6 := (hS4.trans (hS5.addL (footC q v))).set (x := ⟨q, 6, none⟩) (.inl (.inl rfl)) (.int .i64 0)
    have hC6 : IsC (w5.setCell ⟨q, 6, none⟩ (.int .i64 0)) base q p v { c with e := 0 } := hC5.put 6 (.int .i64 0) { c with e := 0 } rfl rfl
    have hD6 : HasD (w5.setCell ⟨q, 6, none⟩ (.int .i64 0)) base p G5 D2 := hD5.keep (Kp.setCell (F := fun k => k = q) (Kp.refl _ _) (x := ⟨q, 6, none⟩) (.inl rfl) _) (fun k hg e => hF5 q (.inl rfl) (e ▸ hg))
    have hb6 := hb.step hS6
    clear hb4 hS4 hS5 hC4 hD4 hC5 hD5 c0 c6 c6' f6'
    generalize w5.setCell ⟨q, 6, none⟩ (.int .i64 0) = w6 at *
    refine NB.wp_region_t [19, 22, 25, 28] (by kernel_rfl) ?_
    have hC7 := hC6.below (Below.refl _ w6).drew
    have hD7 := hD6.below (Below.refl _ w6).drew
    have hb7 := hb6.below (Below.refl _ w6).drew
    have hS7 : Stp (fun k => footC q v k ∨ G k) (fun k => footC q v k ∨ G5 k) w w6.drew := hS6.trans (Stp.of_below (Below.refl _ w6).drew)
    clear hC6 hD6 hb6 hS6
    have c4 : w6.drew.cell? ⟨q, 4, none⟩ = some (.int .u64 (c.top : Int)) := hC7.cell 4 _ rfl
    generalize w6.drew = w7 at *
    refine NB.t_p 0 rfl (by kernel_rfl) (fun K hK => ?_); go_simp; refine hK _ ?_; clear hK K
    refine NB.t_p 1 rfl (by kernel_rfl) (fun K hK => ?_); go_simp; refine hK _ ?_; clear hK K
    refine NB.t_p 2 rfl (by kernel_rfl) (fun K hK => ?_); go_simp; refine hK _ ?_; clear hK K
    refine NB.t_p 3 rfl (by kernel_rfl) (fun K hK => ?_); go_simp; refine hK _ ?_; clear hK K
    refine NB.t_p 4 rfl (by kernel_rfl) (fun K hK => ?_); go_simp; refine hK _ ?_; clear hK K
    refine NB.t_p 5 rfl (by kernel_rfl) (fun K hK => ?_); go_simp; refine hK _ ?_; clear hK K
    refine NB.t_p 6 rfl (by kernel_rfl) (fun K hK => ?_); go_simp; refine hK _ ?_; clear hK K
    refine NB.t_p 7 rfl (by kernel_rfl) (fun K hK => ?_); go_simp; refine hK _ ?_; clear hK K
    refine NB.t_r 8 [9, 17, 18, 19, 20, 21, 22, 23, 24, 25, 26, 27, 28] rfl (by kernel_rfl) (by kernel_rfl) rfl _ (fun w' hw' => NB.run_op_load rfl rfl Try.underlying33 rfl (c4) hw') (fun K hK => ?_); go_simp; refine hK _ ?_; clear hK K
    refine NB.t_p 9 rfl (by kernel_rfl) (fun K hK => ?_); go_simp; refine hK _ ?_; clear hK K
    refine NB.t_p 10 rfl (by kernel_rfl) (fun K hK => ?_); go_simp; refine hK _ ?_; clear hK K
    refine NB.t_p 11 rfl (by kernel_rfl) (fun K hK => ?_); go_simp; refine hK _ ?_; clear hK K
    refine NB.t_p 12 rfl (by kernel_rfl) (fun K hK => ?_); go_simp; refine hK _ ?_; clear hK K
    refine NB.t_r 13 [14, 17, 18, 19, 20, 21, 22, 23, 24, 25, 26, 27, 28] rfl (by kernel_rfl) (by kernel_rfl) rfl _ (fun w' hw' => NB.run_op_load rfl rfl Try.underlying33 rfl (c4) hw') (fun K hK => ?_); go_simp; refine hK _ ?_; clear hK K
    refine NB.t_p 14 rfl (by kernel_rfl) (fun K hK => ?_); go_simp; refine hK _ ?_; clear hK K
    refine NB.t_p 15 rfl (by kernel_rfl) (fun K hK => ?_); go_simp; refine hK _ ?_; clear hK K
    refine NB.t_e 16 rfl (by kernel_rfl) (by kernel_rfl) (fun K hK => ?_); unfold NB.tmoves; go_simp; refine (clone_any _ _ _ _ bs hb7.rd (by omega)).mono ?_; rintro e w8 ⟨a8, k8, rfl, ho8, hb8⟩; refine ⟨_, rfl, hb8, hK _ _ ?_⟩; clear hK K
    refine NB.t_p 17 rfl (by kernel_rfl) (fun K hK => ?_); go_simp; refine hK _ ?_; clear hK K
    refine NB.t_p 18 rfl (by kernel_rfl) (fun K hK => ?_); go_simp; refine hK _ ?_; clear hK K
    refine NB.t_w 19 rfl (by kernel_rfl) (by kernel_rfl) rfl (fun Q' hK => ?_)
    have hC8 := hC7.below hb8
    have hD8 := hD7.below hb8
    have hS8 := hS7.trans (Stp.of_below hb8)
    have hnv : (Value.slice a8 bs.length k8).ownBlock ≠ some q := fun e => by
      have := (ho8.lt q e).1
      have := hC7.lt
      omega
    have hfr : ∀ k, (Value.slice a8 bs.length k8).ownBlock = some k → ¬ G5 k := fun k e hg => by
      have := (ho8.lt k e).1
      have := (hD7.foot k hg).2
      omega
    have hfw : ∀ k, (Value.slice a8 bs.length k8).ownBlock = some k → w.heap.size ≤ k := fun k e => by
      have := (ho8.lt k e).1
      have := hS7.size
      omega
    replace ho8 := NB.own_mono ho8 hC7.base_le
    clear hC7 hD7 hS7 hb7 c4
    have c2 : w8.cell? ⟨q, 2, none⟩ = some (.int .i64 c.now) := hC8.cell 2 _ rfl
    have f2 := hC8.free 2
    go_wp2_with fail
    have hC9 : IsC (w8.setCell ⟨q, 2, none⟩ (.int .i64 0)) base q p v { c with e := 0, now := ((0 : Nat) : Int) } := hC8.put 2 _ _ rfl rfl
    have hD9 := hD8.setq (hF5 q (.inl rfl)) 2 (.int .i64 0)
    have ho9 := own_setq ho8 hnv 2 (.int .i64 0)
    have hS9 := hS8.set (x := ⟨q, 2, none⟩) (.inl (.inl rfl)) (.int .i64 0)
    clear c2 f2 hC8 hD8 ho8 hS8
    generalize w8.setCell ⟨q, 2, none⟩ (.int .i64 0) = w9 at *
    refine NB.t_p 20 rfl (by kernel_rfl) (fun K hK => ?_); go_simp; refine hK _ ?_; clear hK K
    refine NB.t_p 21 rfl (by kernel_rfl) (fun K hK => ?_); go_simp; refine hK _ ?_; clear hK K
    refine NB.t_w 22 rfl (by kernel_rfl) (by kernel_rfl) rfl (fun Q' hK => ?_)
    have c3 : w9.cell? ⟨q, 3, none⟩ = some (.int .u64 (c.turn : Int)) := hC9.cell 3 _ rfl
    have f3 := hC9.free 3
    go_wp2_with fail
    have hC10 : IsC (w9.setCell ⟨q, 3, none⟩ (.int .u64 (T : Int))) base q p v { c with e := 0, now := ((0 : Nat) : Int), turn := T } := hC9.put 3 _ _ rfl rfl
    have hD10 := hD9.setq (hF5 q (.inl rfl)) 3 (.int .u64 (T : Int))
    have ho10 := own_setq ho9 hnv 3 (.int .u64 (T : Int))
    have hS10 := hS9.set (x := ⟨q, 3, none⟩) (.inl (.inl rfl)) (.int .u64 (T : Int))
    clear c3 f3 hC9 hD9 ho9 hS9
    generalize w9.setCell ⟨q, 3, none⟩ (.int .u64 (T : Int)) = w10 at *
    refine NB.t_p 23 rfl (by kernel_rfl) (fun K hK => ?_); go_simp; refine hK _ ?_; clear hK K
    refine NB.t_p 24 rfl (by kernel_rfl) (fun K hK => ?_); go_simp; refine hK _ ?_; clear hK K
    refine NB.t_w 25 rfl (by kernel_rfl) (by kernel_rfl) rfl (fun Q' hK => ?_)
    have c4 : w10.cell? ⟨q, 4, none⟩ = some (.int .u64 (c.top : Int)) := hC10.cell 4 _ rfl
    have f4 := hC10.free 4
    go_wp2_with fail
    have hC11 : IsC (w10.setCell ⟨q, 4, none⟩ (.int .u64 (T : Int))) base q p v { c with e := 0, now := ((0 : Nat) : Int), turn := T, top := T } := hC10.put 4 _ _ rfl rfl
    have hD11 := hD10.setq (hF5 q (.inl rfl)) 4 (.int .u64 (T : Int))
    have ho11 := own_setq ho10 hnv 4 (.int .u64 (T : Int))
    have hS11 := hS10.set (x := ⟨q, 4, none⟩) (.inl (.inl rfl)) (.int .u64 (T : Int))
    clear c4 f4 hC10 hD10 ho10 hS10
    generalize w10.setCell ⟨q, 4, none⟩ (.int .u64 (T : Int)) = w11 at *
    refine NB.t_p 26 rfl (by kernel_rfl) (fun K hK => ?_); go_simp; refine hK _ ?_; clear hK K
    refine NB.t_p 27 rfl (by kernel_rfl) (fun K hK => ?_); go_simp; refine hK _ ?_; clear hK K
    refine NB.t_w 28 rfl (by kernel_rfl) (by kernel_rfl) rfl (fun Q' hK => ?_)
    have c5 : w11.cell? ⟨q, 5, none⟩ = some v := hC11.cell 5 _ rfl
    have f5 := hC11.free 5
    go_wp2_with fail
    refine NB.t_end (by kernel_rfl) ?_
    go_wp2_with fail
    go_ret
    rw [HR.out]
    refine ⟨rfl, _, G5, ⟨_, hC11.putB _ bs ho11 hnv, rfl⟩, hD11.setq (hF5 q (.inl rfl)) 5 _, ?_, ?_⟩
    · intro k hk
      rcases hk with rfl | hk
      · exact hF5 k (.inl rfl)
      · exact hfr k hk
    · have h12 := hS11.set (x := ⟨q, 5, none⟩) (.inl (.inl rfl)) (.slice a8 bs.length k8)
      refine ⟨h12.kp, fun k hk => ?_⟩
      rcases hk with (rfl | hk) | hk
      · exact .inl (.inl (.inl rfl))
      · exact .inr (hfw k hk)
      · exact h12.sub k (.inr hk)
end Go.Proofs.Ytcdapjfaekamkaa
