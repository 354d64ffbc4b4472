/- A disk, and the reference's disk in a box beside it. -/
import Derived.Test.YtcdapjfaekamkaaRff
namespace Go.Proofs.Ytcdapjfaekamkaa
open Go.RowKit
open Go.NB (Rd Dk Kp Stp Off Dis)

theorem RefD.keep {w w' : World} {v : Value} {D : Dk} {F : Nat → Prop} (h : RefD w v D) (hk : Kp F w w') (hF : ∀ k, locR v k → ¬ F k) : RefD w' v D := by
  obtain ⟨a1, c1, a2, c2, rfl, h1, h2⟩ := h
  refine ⟨a1, c1, a2, c2, rfl, hk.rd h1 (fun b o e hn => hF b (loc_1 b o e ?_)), hk.rd h2 (fun b o e hn => hF b (loc_2 b o e ?_))⟩
  · have := h1.len
    rcases Nat.eq_zero_or_pos D.l.length with h0 | h0
    · rw [h0] at this; exact absurd (List.eq_nil_of_length_eq_zero (by omega)) hn
    · exact h0
  · have := h2.len
    rcases Nat.eq_zero_or_pos D.waits.length with h0 | h0
    · rw [h0] at this; exact absurd (List.eq_nil_of_length_eq_zero (by omega)) hn
    · exact h0
theorem RefD.low {w : World} {v : Value} {D : Dk} (h : RefD w v D) (k : Nat) (hk : locR v k) : k < w.heap.size := by
  obtain ⟨a1, c1, a2, c2, rfl, h1, h2⟩ := h
  obtain ⟨b1, m1, e1, b2, m2, e2, l2, d2, o, e, h⟩ := hk
  simp only [rdV, Value.agg.injEq, Array.mk.injEq, List.cons.injEq, Value.slice.injEq] at e
  obtain ⟨⟨rfl, rfl, _⟩, ⟨rfl, rfl, _⟩, _⟩ := e
  rcases h with ⟨e, hn⟩ | ⟨e, hn⟩
  · exact rd_low h1 k o e (fun h0 => by have := h1.len; rw [h0] at this; simp at this; omega)
  · exact rd_low h2 k o e (fun h0 => by have := h2.len; rw [h0] at this; simp at this; omega)
/-- 'D': what the program's disk is; 'E': what the reference's is, in the box 'g'. -/
structure Pl (w : World) (base p g : Nat) (F : Nat → Prop) (D E : Dk) (a1 : Option Addr) (c1 : Nat) (a2 : Option Addr) (c2 : Nat) : Prop where
  d : HasD w base p F D
  nf : ¬ F g
  row : Rw w g [.slice a1 E.l.length c1, .slice a2 E.waits.length c2, .int .i64 E.left, .bool E.down] 49
  ref : RefD w (rdV a1 E.l.length c1 a2 E.waits.length c2 E.left E.down) E
  off : ∀ k, locR (rdV a1 E.l.length c1 a2 E.waits.length c2 E.left E.down) k → ¬ F k ∧ k ≠ g
section
variable {w w' : World} {base p g : Nat} {F F' : Nat → Prop} {D D' E : Dk} {a1 a2 : Option Addr} {c1 c2 : Nat}
theorem Pl.below (h : Pl w base p g F D E a1 c1 a2 c2) (hb : Below w.heap.size w w') : Pl w' base p g F D E a1 c1 a2 c2 :=
  ⟨h.d.below hb, h.nf, h.row.below hb, h.ref.below hb, h.off⟩
theorem Pl.real (h : Pl w base p g F D E a1 c1 a2 c2) (hs : Stp F F' w w') (hd : HasD w' base p F' D') : Pl w' base p g F' D' E a1 c1 a2 c2 where
  d := hd
  nf := fun hg => (hs.sub g hg).elim h.nf (fun h1 => by have := h.row.lt; omega)
  row := h.row.keep hs.kp h.nf
  ref := h.ref.keep hs.kp (fun k hk => (h.off k hk).1)
  off := fun k hk => ⟨fun hf => (hs.sub k hf).elim (h.off k hk).1 (fun h1 => by have := h.ref.low k hk; omega), (h.off k hk).2⟩
/-- The reference's answer is laid into the box. -/
theorem Pl.put (h : Pl w base p g F D E a1 c1 a2 c2) (hb : Below w.heap.size w w') {v' : Value} (hr : RefD w' v' D) (hl : ∀ k, locR v' k → locR (rdV a1 E.l.length c1 a2 E.waits.length c2 E.left E.down) k ∨ w.heap.size ≤ k) :
    ∃ b1 d1 b2 d2, v' = rdV b1 D.l.length d1 b2 D.waits.length d2 D.left D.down ∧
      Pl ((((w'.setCell ⟨g, 0, none⟩ (.slice b1 D.l.length d1)).setCell ⟨g, 1, none⟩ (.slice b2 D.waits.length d2)).setCell ⟨g, 2, none⟩ (.int .i64 D.left)).setCell ⟨g, 3, none⟩ (.bool D.down)) base p g F D D b1 d1 b2 d2 := by
  have hr0 := hr
  obtain ⟨b1, d1, b2, d2, rfl, _, _⟩ := hr0
  refine ⟨b1, d1, b2, d2, rfl, ?_⟩
  have hoff : ∀ k, locR (rdV b1 D.l.length d1 b2 D.waits.length d2 D.left D.down) k → ¬ F k ∧ k ≠ g := fun k hk => by
    rcases hl k hk with h1 | h1
    · exact h.off k h1
    · exact ⟨fun hf => by have := (h.d.foot k hf).2; omega, fun e => by have := h.row.lt; omega⟩
  have K : Kp (fun k => k = g) w' ((((w'.setCell ⟨g, 0, none⟩ (.slice b1 D.l.length d1)).setCell ⟨g, 1, none⟩ (.slice b2 D.waits.length d2)).setCell ⟨g, 2, none⟩ (.int .i64 D.left)).setCell ⟨g, 3, none⟩ (.bool D.down)) :=
    ((((Kp.refl (fun k => k = g) w').setCell (x := ⟨g, 0, none⟩) (.inl rfl) _).setCell (x := ⟨g, 1, none⟩) (.inl rfl) _).setCell (x := ⟨g, 2, none⟩) (.inl rfl) _).setCell (x := ⟨g, 3, none⟩) (.inl rfl) _
  exact ⟨(h.d.below hb).keep K (fun k hf e => h.nf (e ▸ hf)), h.nf, ((((h.row.below hb).set 0 _).set 1 _).set 2 _).set 3 _, hr.keep K (fun k hk => (hoff k hk).2), hoff⟩
end
end Go.Proofs.Ytcdapjfaekamkaa
