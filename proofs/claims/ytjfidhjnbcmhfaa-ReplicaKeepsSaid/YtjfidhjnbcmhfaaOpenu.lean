/- A statement's argument that is a slice of uint64s. No program in sight. -/
import Derived.Test.YtjfidhjnbcmhfaaOpen
namespace Go.NB
open Go Go.RowKit Go.ChangeShapes Go.WideShapes Go.ChangeAt

def u64v (x : Nat) : Value := .int .u64 (x : Int)
abbrev RdU (w : World) (a : Option Addr) (n c : Nat) (xs : List Nat) : Prop := Rd 1 w a n c (xs.map u64v) ∧ ∀ x ∈ xs, x < 18446744073709551616

theorem RdU.at {w : World} {a : Option Addr} {n c : Nat} {xs : List Nat} (h : RdU w a n c xs) (k : Nat) (hk : k < n) :
    ∃ b o, w.cell? ⟨b, o + k, none⟩ = some (.int .u64 ((xs.getD k 0 : Nat) : Int)) ∧ a = some ⟨b, o, none⟩ := by
  obtain ⟨b, o, e, hc⟩ := Rd.pos h.1 (by omega)
  have hl := h.1.len
  simp at hl
  refine ⟨b, o, hc k _ ?_, e⟩
  simp [u64v, List.getD, show k < xs.length by omega]
theorem RdU.size {w : World} {a : Option Addr} {n c : Nat} {xs : List Nat} (h : RdU w a n c xs) : xs.length = n := by have := h.1.len; simpa using this
theorem RdU.below {w w' : World} {a : Option Addr} {n c : Nat} {xs : List Nat} (h : RdU w a n c xs) (hb : Below w.heap.size w w') : RdU w' a n c xs := ⟨h.1.below hb, h.2⟩

theorem bounds_u64' {n : Int} (h : (Lit.int .u64 n).wf = true) : 0 ≤ n ∧ n ≤ 18446744073709551615 := bounds_u64 h

theorem rdU_of_ints {w : World} {x : Addr} {l c : Nat} {zs : List Int} (hl : l ≤ c) (hm : c ≤ maxLen) (hz : zs.length = c)
    (hcell : ∀ i, i < zs.length → w.cell? (x.add i) = some (.int .u64 (zs.getD i 0))) (hw : ∀ n ∈ zs, (Lit.int .u64 n).wf = true) : ∃ xs, RdU w (some x) l c xs := by
  refine ⟨(zs.take l).map fun n => n.toNat, ⟨by simp; omega, hl, hm, (fun e => nomatch e), ?_, ?_⟩, ?_⟩
  · intro hc
    have h0 := hcell 0 (by omega)
    obtain ⟨b, o, sp⟩ := x
    have hs : sp = none := by simpa [Addr.add] using World.cell?_spot h0
    exact ⟨b, o, by rw [hs]⟩
  · intro b o e i v hi
    cases e
    simp only [List.map_map, List.getElem?_map, List.getElem?_take] at hi
    split at hi
    · rename_i hil
      have hic : i < zs.length := by omega
      rw [List.getElem?_eq_getElem hic] at hi
      simp only [Option.map_some, Function.comp, Option.some.injEq] at hi
      subst hi
      have := hcell i hic
      rw [addr_add] at this
      have hb := bounds_u64 (hw _ (List.getElem_mem hic))
      rw [this, u64v, Int.toNat_of_nonneg hb.1]
      simp [List.getD, hic]
    · simp at hi
  · intro y hy
    obtain ⟨z, hz', rfl⟩ := List.mem_map.1 hy
    have hb := bounds_u64 (hw _ (List.mem_of_mem_take hz'))
    omega

section
variable {H : Type} {enc : TypeId × Value → H} {P : Program} {w : World} {base : Nat} {held : Bool}

theorem open_U {t e : TypeId} (ht : P.underlying t = some (.slice e)) (he : P.underlying e = some (.int .u64)) (ce : P.cellsOf e = 1) {a : Option Addr} {n c : Nat} {d : DataW H} {p : List MemPlace}
    (h : DataW.Trod enc P w base (fun _ => true) held t (.slice a n c) d p) : ∃ xs, RdU w a n c xs := by
  obtain ⟨fuel, hf⟩ := h
  rcases open_ints ht he ce hf with ⟨hcs, _⟩ | ⟨x, l, cap, zs, hcs, _, hl, hm, hz, _, hcell, hwz⟩
  · simp [Value.cells] at hcs
    obtain ⟨rfl, rfl, rfl⟩ := hcs
    exact ⟨[], Rd.nil_mk, fun x h => nomatch h⟩
  · simp [Value.cells] at hcs
    obtain ⟨rfl, rfl, rfl⟩ := hcs
    exact rdU_of_ints hl hm (by simpa using hz) hcell hwz
end
end Go.NB
