/- The references on commands, walked: all, and what Get stands on. -/
import Derived.Test.YtnkmlopgfgdajaaRcb
import Derived.Test.YtnkmlopgfgdajaaRcc
import Derived.Test.YtnkmlopgfgdajaaCfh
namespace Go.Proofs.Ytnkmlopgfgdajaa
open Go.RowKit
open Go.NB (Rd RdU Kp Stp Dis Rr Rw oneB dB encU)

set_option maxHeartbeats 1000000 in
theorem rall_any (w : World) (m : Rr) (v : Value) : Calls Try.prog 30 #[.agg #[.string ⟨m.b.toArray⟩, .int .i64 m.e], v] w fun e w' => e = .returned (.tuple #[.agg #[.string ⟨m.b.toArray⟩, .int .i64 m.e], v]) ∧ Below w.heap.size w w' := by
  go_enter Try.func30, Try.ntmps30
  go_wp2
  refine bodyPost_ret (v := .tuple #[.agg #[.string ⟨m.b.toArray⟩, .int .i64 m.e], v]) (by simp [results, Try.results30, go_sem]) rfl ⟨rfl, ?_⟩
  exact ((Below.refl _ _).alloc (Nat.le_refl _) _).alloc (by simp) _

/-- What stands while the reference gets a command. -/
structure RGetI (w0 : World) (g2 g4 g5 : Nat) (v4 : List Value) (m : Rr) (w : World) : Prop where
  r2 : Rw w g2 [Value.int .i64 0, .int .u64 0, .int .u64 0, .int .i64 0, .int .i64 0, .int .u64 0, .slice none 0 0] 33
  r4 : Rw w g4 v4 33
  r5 : Rw w g5 (rV m) 69
  d24 : g2 ≠ g4
  d25 : g2 ≠ g5
  d45 : g4 ≠ g5
  b2 : w0.heap.size ≤ g2
  b4 : w0.heap.size ≤ g4
  b5 : w0.heap.size ≤ g5
  bel : Below w0.heap.size w0 w
section
variable {w0 w w' : World} {g2 g4 g5 : Nat} {v4 : List Value} {m m' : Rr}
theorem RGetI.below (h : RGetI w0 g2 g4 g5 v4 m w) (hb : Below w.heap.size w w') : RGetI w0 g2 g4 g5 v4 m w' :=
  ⟨h.r2.below hb, h.r4.below hb, h.r5.below hb, h.d24, h.d25, h.d45, h.b2, h.b4, h.b5, NB.bel h.bel hb h.bel.size⟩
theorem RGetI.set (h : RGetI w0 g2 g4 g5 v4 m w) (k : Nat) (u : Value) : RGetI w0 g2 g4 g5 (v4.set k u) m (w.setCell ⟨g4, k, none⟩ u) :=
  ⟨h.r2.other h.d24 k u, h.r4.set k u, h.r5.other (fun e => h.d45 e.symm) k u, h.d24, h.d25, h.d45, h.b2, h.b4, h.b5, h.bel.setCell (p := ⟨g4, k, none⟩) h.b4 u⟩
theorem RGetI.setR (h : RGetI w0 g2 g4 g5 v4 m w) (m' : Rr) : RGetI w0 g2 g4 g5 v4 m' ((w.setCell ⟨g5, 0, none⟩ (.string ⟨m'.b.toArray⟩)).setCell ⟨g5, 1, none⟩ (.int .i64 m'.e)) :=
  ⟨(h.r2.other h.d25 0 _).other h.d25 1 _, (h.r4.other h.d45 0 _).other h.d45 1 _, (h.r5.set 0 _).set 1 _, h.d24, h.d25, h.d45, h.b2, h.b4, h.b5, (h.bel.setCell (p := ⟨g5, 0, none⟩) h.b5 _).setCell (p := ⟨g5, 1, none⟩) h.b5 _⟩
end
theorem FarW2.far {b0 g : Nat} {a : Option Addr} {L : List Iw} (h : FarW2 b0 a L) (hg : g < b0) : FarW (fun k => k = g) a L :=
  ⟨fun b o e hk => by have := h.1 b o e; omega, fun x hx b o e hk => by have := h.2 x hx b o e; omega⟩
theorem getM_fin {y : UInt8} {b : List UInt8} {k : Nat} {m : Rr} {C : Cm} (hy : y.toNat = k) (hk : k ≤ 4) (hP : fieldsP k ⟨b, 0⟩ = (m, C)) : getM (y :: b) = if m.fin ≠ 0 then (cm0, m.fin) else if checkB C = true then (C, 0) else (cm0, 11) := by
  rw [getM_of hy hk hP]
  by_cases he : m.e = 0
  · rw [if_neg (fun h => h he), Rr.eta he, Rr.fin_ok]
    by_cases hb : m.b = []
    · rw [if_neg (fun h => h hb), if_pos hb]; simp
    · rw [if_pos hb, if_neg hb]; simp
  · rw [if_pos he, Rr.fin_err he, if_pos he]
end Go.Proofs.Ytnkmlopgfgdajaa
