/- Commands in memory; the functions of, fits, and the rows' Clone and Cut. -/
import Derived.Test.YtnkmlopgfgdajaaCfm
import Derived.Test.YtnkmlopgfgdajaaOpenu
import Derived.Test.YtnkmlopgfgdajaaRw
import Derived.Test.YtnkmlopgfgdajaaSlc
import Derived.Test.YtnkmlopgfgdajaaKp
namespace Go.Proofs.Ytnkmlopgfgdajaa
open Go.RowKit
open Go.NB (Rd RdU oneB dB Rw)

/-- A row as it lies in memory. -/
structure Iw where
  s : Int
  a : Option Addr
  n : Nat
  c : Nat
  l : List Nat
def iwV (x : Iw) : List Value := [.int .i64 x.s, .slice x.a x.n x.c]
def iwsV (l : List Iw) : List Value := l.flatMap iwV
def rlOf (x : Iw) : Rl := ⟨x.s, x.l⟩
/-- Rows that a slice reads as. -/
structure RdW (w : World) (a : Option Addr) (n c : Nat) (l : List Iw) : Prop where
  rd : Rd 2 w a n c (iwsV l)
  it : ∀ x ∈ l, RdU w x.a x.n x.c x.l
theorem iws_len (l : List Iw) : (iwsV l).length = l.length * 2 := by
  induction l with
  | nil => rfl
  | cons x l ih => rw [iwsV, List.flatMap_cons, List.length_append, ← iwsV, ih]; simp [iwV]; omega
theorem RdW.len {w : World} {a : Option Addr} {n c : Nat} {l : List Iw} (h : RdW w a n c l) : l.length = n := by
  have := h.rd.len
  rw [iws_len] at this
  omega
theorem RdW.below {w w' : World} {a : Option Addr} {n c : Nat} {l : List Iw} (h : RdW w a n c l) (hb : Below w.heap.size w w') : RdW w' a n c l := ⟨h.rd.below hb, fun x hx => (h.it x hx).below hb⟩
theorem iws_at : ∀ (l : List Iw) (i : Nat) (x : Iw), l[i]? = some x → (iwsV l)[i * 2]? = some (.int .i64 x.s) ∧ (iwsV l)[i * 2 + 1]? = some (.slice x.a x.n x.c)
  | [], i, x, h => by simp at h
  | y :: l, 0, x, h => by simp at h; subst h; simp [iwsV, iwV]
  | y :: l, i + 1, x, h => by
    have := iws_at l i x (by simpa using h)
    rw [iwsV, List.flatMap_cons, show (i + 1) * 2 = i * 2 + 2 by omega, ← iwsV]
    simpa [iwV] using this
theorem RdW.at {w : World} {a : Option Addr} {n c : Nat} {l : List Iw} (h : RdW w a n c l) (k : Nat) (hk : k < n) :
    ∃ b o x, a = some ⟨b, o, none⟩ ∧ l[k]? = some x ∧ w.cell? ⟨b, o + k * 2, none⟩ = some (.int .i64 x.s) ∧ w.cell? ⟨b, o + k * 2 + 1, none⟩ = some (.slice x.a x.n x.c) ∧ RdU w x.a x.n x.c x.l := by
  obtain ⟨b, o, e, hc⟩ := Rd.pos h.rd (by omega)
  have hl := h.len
  obtain ⟨x, hx⟩ : ∃ x, l[k]? = some x := ⟨_, List.getElem?_eq_getElem (by omega)⟩
  obtain ⟨v0, v1⟩ := iws_at l k x hx
  exact ⟨b, o, x, e, hx, hc _ _ v0, by rw [Nat.add_assoc]; exact hc _ _ v1, h.it x (List.mem_of_getElem? hx)⟩

def hasV (a b c d e : Bool) : Value := .agg #[.bool a, .bool b, .bool c, .bool d, .bool e]
def ofV : Nat → Value
  | 1 => hasV true true true false false
  | 2 => hasV true true false false true
  | 3 => hasV true false false true false
  | 4 => hasV false false false false true
  | _ => hasV false false false false false

set_option maxHeartbeats 1000000 in
theorem of_any (w : World) (k : Nat) (h : k ≤ 4) : Calls Try.prog 22 #[.int .i64 (k : Int)] w fun e w' => e = .returned (ofV k) ∧ Below w.heap.size w w' := by
  have h5 : k = 0 ∨ k = 1 ∨ k = 2 ∨ k = 3 ∨ k = 4 := by omega
  rcases h5 with rfl | rfl | rfl | rfl | rfl
  all_goals
    go_enter Try.func22, Try.ntmps22
    go_wp2
    refine bodyPost_ret (v := ofV _) (by simp [results, Try.results22, go_sem, ofV, hasV]) rfl ⟨rfl, ?_⟩
    exact ((Below.refl _ _).alloc (Nat.le_refl _) _).alloc (by simp) _

/-- Each field is nothing that the op hasn't. -/
def fitsB (k cl sq : Nat) (sh sg : Int) (ps n : Nat) : Bool :=
  match k with
  | 1 => decide (ps = 0 ∧ n = 0)
  | 2 => decide (sg = 0 ∧ ps = 0)
  | 3 => decide (sh = 0 ∧ sg = 0 ∧ n = 0)
  | 4 => decide (cl = 0 ∧ sq = 0 ∧ sh = 0 ∧ sg = 0 ∧ ps = 0)
  | _ => decide (cl = 0 ∧ sq = 0 ∧ sh = 0 ∧ sg = 0 ∧ ps = 0 ∧ n = 0)

set_option maxHeartbeats 1000000 in
theorem fits_any (w : World) (k : Nat) (h : k ≤ 4) (op sh sg : Int) (cl sq ps n c : Nat) (a : Option Addr) (hn : n ≤ 9223372036854775807) :
    Calls Try.prog 40 #[.agg #[.int .i64 op, .int .u64 (cl : Int), .int .u64 (sq : Int), .int .i64 sh, .int .i64 sg, .int .u64 (ps : Int), .slice a n c], ofV k] w
      fun e w' => e = .returned (.bool (fitsB k cl sq sh sg ps n)) ∧ Below w.heap.size w w' := by
  have h5 : k = 0 ∨ k = 1 ∨ k = 2 ∨ k = 3 ∨ k = 4 := by omega
  rcases h5 with rfl | rfl | rfl | rfl | rfl
  all_goals
    unfold ofV hasV
    go_enter Try.func40, Try.ntmps40
    go_wp2
    all_goals
      go_ret
      refine ⟨?_, ((Below.refl _ _).alloc (Nat.le_refl _) _).alloc (by simp) _⟩
      first | (simp_all [fitsB]; done) | (simp_all [fitsB]; omega)
end Go.Proofs.Ytnkmlopgfgdajaa
