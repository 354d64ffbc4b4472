/- The function Get of conf. -/
import Derived.Test.YtnkmlopgfgdajaaCfg
import Derived.Test.YtnkmlopgfgdajaaCfc
namespace Go.Proofs.Ytnkmlopgfgdajaa
open Go.RowKit
open Go.NB (Rd RdU Kp Stp Dis Rr Rw oneB dB encU)

/-- A command and an error. -/
def GetC (w : World) (r : Cm × Int) (e : Ending) (w' : World) : Prop :=
  ∃ a c L, e = .returned (.tuple #[.agg #[.int .i64 r.1.op, .int .u64 (r.1.client : Int), .int .u64 (r.1.seq : Int), .int .i64 r.1.shard, .int .i64 r.1.segs, .int .u64 (r.1.pos : Int), .slice a (List.length L) c], .int .i64 r.2]) ∧ RdW w' a L.length c L ∧ L.map rlOf = r.1.rows ∧ Below w.heap.size w w'
theorem getC_no {w w' : World} {x : Int} (h : Below w.heap.size w w') : GetC w (cm0, x) (.returned (.tuple #[.agg #[Value.int .i64 0, .int .u64 0, .int .u64 0, .int .i64 0, .int .i64 0, .int .u64 0, .slice none 0 0], .int .i64 x])) w' :=
  ⟨none, 0, [], rfl, ⟨Rd.nil_mk, fun x hx => nomatch hx⟩, rfl, h⟩

/-- What stands while a command is got. -/
structure GetI (w0 : World) (base p g g2 g6 g7 : Nat) (v6 v7 : List Value) (FC : Nat → Prop) (m : Rr) (w : World) : Prop where
  rd : HasC w base p g FC m
  r2 : Rw w g2 [Value.int .i64 0, .int .u64 0, .int .u64 0, .int .i64 0, .int .i64 0, .int .u64 0, .slice none 0 0] 27
  r6 : Rw w g6 v6 27
  r7 : Rw w g7 v7 62
  n2 : ¬ FC g2
  n6 : ¬ FC g6
  n7 : ¬ FC g7
  d26 : g2 ≠ g6
  d67 : g7 ≠ g6
  hb : w0.heap.size ≤ base
  b2 : w0.heap.size ≤ g2
  b6 : w0.heap.size ≤ g6
  bel : Below w0.heap.size w0 w
section
variable {w0 w w' : World} {base p g g2 g6 g7 : Nat} {v6 v7 : List Value} {FC FC' : Nat → Prop} {m m' : Rr}
theorem GetI.step (h : GetI w0 base p g g2 g6 g7 v6 v7 FC m w) (hC : HasC w' base p g FC' m') (hS : Stp FC FC' w w') : GetI w0 base p g g2 g6 g7 v6 v7 FC' m' w' where
  rd := hC
  r2 := h.r2.keep hS.kp h.n2
  r6 := h.r6.keep hS.kp h.n6
  r7 := h.r7.keep hS.kp h.n7
  n2 := fun hf => (hS.sub _ hf).elim h.n2 (fun hh => by have := h.r2.lt; omega)
  n6 := fun hf => (hS.sub _ hf).elim h.n6 (fun hh => by have := h.r6.lt; omega)
  n7 := fun hf => (hS.sub _ hf).elim h.n7 (fun hh => by have := h.r7.lt; omega)
  d26 := h.d26
  d67 := h.d67
  hb := h.hb
  b2 := h.b2
  b6 := h.b6
  bel := NB.bel h.bel (h.rd.low hS) h.hb
theorem GetI.set (h : GetI w0 base p g g2 g6 g7 v6 v7 FC m w) (k : Nat) (u : Value) : GetI w0 base p g g2 g6 g7 (v6.set k u) v7 FC m (w.setCell ⟨g6, k, none⟩ u) where
  rd := h.rd.keep (NB.Kp.setCell (NB.Kp.refl (fun k => k = g6) w) (x := ⟨g6, k, none⟩) (.inl rfl) u) (fun k hf hk => h.n6 (by subst hk; exact hf))
  r2 := h.r2.other h.d26 k u
  r6 := h.r6.set k u
  r7 := h.r7.other h.d67 k u
  n2 := h.n2
  n6 := h.n6
  n7 := h.n7
  d26 := h.d26
  d67 := h.d67
  hb := h.hb
  b2 := h.b2
  b6 := h.b6
  bel := h.bel.setCell (p := ⟨g6, k, none⟩) h.b6 u
theorem HasC.inner (h : HasC w base p g FC m) (he : m.e = 0) : ∃ F, HasR w base p F m ∧ w.cell? ⟨g, 0, none⟩ = some (.pointer (some ⟨p, 0, none⟩)) := by
  obtain ⟨F, rd, ex, hR, row, nf, hb, hx, rfl, rfl⟩ := h
  have hex : ex = 0 := by
    by_cases h0 : ex = 0
    · exact h0
    · simp only [if_pos h0] at he; exact absurd he h0
  subst hex
  have hmm : (⟨rd.b, if (0 : Int) ≠ 0 then 0 else rd.e⟩ : Rr) = rd := by simp
  rw [hmm]
  exact ⟨F, hR, (NB.rw2 row).1⟩
end

set_option maxRecDepth 100000 in
set_option maxHeartbeats 2000000 in
theorem cget_nil (w : World) (a : Option Addr) (n c : Nat) (h : NB.RdB w a n c []) : Calls Try.prog 11 #[.slice a n c] w (GetC w (getM [])) := by
  have hn := NB.RdB.size h
  have hn0 : n = 0 := by simpa using hn.symm
  subst hn0
  clear hn
  have ob := oneB w (.cells #[Value.int .i64 0, .int .u64 0, .int .u64 0, .int .i64 0, .int .i64 0, .int .u64 0, .slice none 0 0] 27)
  have r2 := NB.rw_new w [Value.int .i64 0, .int .u64 0, .int .u64 0, .int .i64 0, .int .i64 0, .int .u64 0, .slice none 0 0] 27 rfl
  simp only [List.toArray] at r2
  have h1 := Rd.below h ob
  go_enter Try.func11, Try.ntmps11
  go_wp2_with fail
  refine (rnew_any _ a 0 c [] h1 (by omega)).mono ?_
  rintro e w1 ⟨p, F, rfl, hR, hb1⟩
  have r21 := r2.below hb1
  have B1 := NB.bel ob hb1 ob.size
  clear r2 h1 hb1 ob
  have nf : ¬ F w.heap.size := fun hf => by have := (hR.foot _ hf).1; simp at this; omega
  have hbase : w.heap.size ≤ (w.alloc (.cells #[Value.int .i64 0, .int .u64 0, .int .u64 0, .int .i64 0, .int .i64 0, .int .u64 0, .slice none 0 0] 27)).heap.size := by simp
  generalize (w.alloc (.cells #[Value.int .i64 0, .int .u64 0, .int .u64 0, .int .i64 0, .int .i64 0, .int .u64 0, .slice none 0 0] 27)).heap.size = base at *
  go_wp2_with fail
  have rg := NB.rw_new w1 [.pointer (some ⟨p, 0, none⟩), .int .i64 0] 59 rfl
  have ob2 := oneB w1 (.cells #[.pointer (some ⟨p, 0, none⟩), .int .i64 0] 59)
  have hR2 := hR.below ob2
  have r22 := r21.below ob2
  have B2 := NB.bel B1 ob2 B1.size
  refine (rraw_any _ base p F _ 1 (by omega) hR2 (by simp)).mono ?_
  rw [show Rr.raw ⟨[], 0⟩ 1 = (⟨[], 10⟩, []) from rfl]
  rintro e w3 ⟨a3, c3, F3, rfl, _, hR3, hS3, _⟩
  have r23 := r22.keep hS3.kp nf
  have B3 := NB.bel B2 (hR2.low hS3) hbase
  simp only [List.length_nil]
  clear hR hR2 hR3 hS3 r21 r22 rg ob2 B1 B2 nf
  obtain ⟨c0, c1, c2, c3', c4, c5, c6, f0, f1, f2, f3, f4, f5, f6⟩ := NB.rw7 r23
  have hlt := r23.lt
  go_wp2_with fail
  have r9 := (((((((r23.set 0 (.int .i64 0)).set 1 (.int .u64 0)).set 2 (.int .u64 0)).set 3 (.int .i64 0)).set 4 (.int .i64 0)).set 5 (.int .u64 0)).set 6 (.slice none 0 0))
  simp only [List.set] at r9
  have B9 : Below w.heap.size w ((((((((w3.setCell ⟨w.heap.size, 0, none⟩ (.int .i64 0)).setCell ⟨w.heap.size, 1, none⟩ (.int .u64 0)).setCell ⟨w.heap.size, 2, none⟩ (.int .u64 0)).setCell ⟨w.heap.size, 3, none⟩ (.int .i64 0)).setCell ⟨w.heap.size, 4, none⟩ (.int .i64 0)).setCell ⟨w.heap.size, 5, none⟩ (.int .u64 0)).setCell ⟨w.heap.size, 6, none⟩ (.slice none 0 0))) := (((((((B3.setCell (p := ⟨_, 0, none⟩) (Nat.le_refl _) (.int .i64 0)).setCell (p := ⟨_, 1, none⟩) (Nat.le_refl _) (.int .u64 0)).setCell (p := ⟨_, 2, none⟩) (Nat.le_refl _) (.int .u64 0)).setCell (p := ⟨_, 3, none⟩) (Nat.le_refl _) (.int .i64 0)).setCell (p := ⟨_, 4, none⟩) (Nat.le_refl _) (.int .i64 0)).setCell (p := ⟨_, 5, none⟩) (Nat.le_refl _) (.int .u64 0)).setCell (p := ⟨_, 6, none⟩) (Nat.le_refl _) (.slice none 0 0))
  generalize (((((((w3.setCell ⟨w.heap.size, 0, none⟩ (.int .i64 0)).setCell ⟨w.heap.size, 1, none⟩ (.int .u64 0)).setCell ⟨w.heap.size, 2, none⟩ (.int .u64 0)).setCell ⟨w.heap.size, 3, none⟩ (.int .i64 0)).setCell ⟨w.heap.size, 4, none⟩ (.int .i64 0)).setCell ⟨w.heap.size, 5, none⟩ (.int .u64 0)).setCell ⟨w.heap.size, 6, none⟩ (.slice none 0 0)) = w9 at *
  obtain ⟨d0, d1, d2, d3, d4, d5, d6, _⟩ := NB.rw7 r9
  have hlt9 := r9.lt
  refine bodyPost_ret (v := .tuple #[.agg #[Value.int .i64 0, .int .u64 0, .int .u64 0, .int .i64 0, .int .i64 0, .int .u64 0, .slice none 0 0], .int .i64 10]) (by simp [results, Try.results11, go_sem, d0, d1, d2, d3, d4, d5, d6, hlt9]) rfl ?_
  exact getC_no B9

theorem of_any' (w : World) (k : Nat) (x : Int) (hx : x = (k : Int)) (h : k ≤ 4) : Calls Try.prog 22 #[.int .i64 x] w fun e w' => e = .returned (ofV k) ∧ Below w.heap.size w w' := by
  subst hx; exact of_any w k h
/-- Apart from certain blocks. -/
def FarW (G : Nat → Prop) (a : Option Addr) (L : List Iw) : Prop := (∀ b o, a = some ⟨b, o, none⟩ → ¬ G b) ∧ ∀ x ∈ L, ∀ b o, x.a = some ⟨b, o, none⟩ → ¬ G b
theorem RdW.kp {G : Nat → Prop} {w w' : World} {a : Option Addr} {n c : Nat} {L : List Iw} (h : RdW w a n c L) (hk : Kp G w w') (hf : FarW G a L) : RdW w' a n c L :=
  ⟨hk.rd h.rd (fun b o e _ => hf.1 b o e), fun x hx => ⟨hk.rd (h.it x hx).1 (fun b o e _ => hf.2 x hx b o e), (h.it x hx).2⟩⟩
theorem raw_one (y : UInt8) (b : List UInt8) : Rr.raw ⟨y :: b, 0⟩ 1 = (⟨b, 0⟩, [y]) := by
  simp [Rr.raw, Rr.take]
theorem getM_of {y : UInt8} {b : List UInt8} {k : Nat} {m : Rr} {C : Cm} (hy : y.toNat = k) (hk : k ≤ 4) (hP : fieldsP k ⟨b, 0⟩ = (m, C)) : getM (y :: b) = if m.e ≠ 0 then (cm0, m.e) else if m.b ≠ [] then (cm0, 12) else if checkB C = true then (C, 0) else (cm0, 11) := by
  simp only [getM, hy, hP]
  rw [if_neg (by omega)]
end Go.Proofs.Ytnkmlopgfgdajaa
