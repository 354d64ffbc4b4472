/- From a reading of an argument to what the walks ask of it. No program in sight. -/
import Derived.Test.YtjfidhjnbcmhfaaBase
import Derived.ProofKit
import Derived.OpenShut
import Derived.ShutString
import Derived.ChangeOld
import Derived.Below
import Derived.Deep.Matrix
namespace Go.NB
open Go Go.RowKit Go.ChangeShapes Go.WideShapes Go.ChangeAt
open Go.ChangeMaps (open_string shut_string)

/-- What owns something begins at a row's head. -/
theorem own_pos {w : World} {base : Nat} {e : TypeId} {size : Nat} {v : Value} {n : Nat} {xs : List Value} (h : w.ownsRow base e size v n xs) (hn : 0 < n) : ∃ g cap, v = .slice (some ⟨g, 0, none⟩) n cap := by
  rcases h.2 with ⟨_, rfl⟩ | ⟨g, cap, cur, rfl, _⟩
  · omega
  · exact ⟨g, cap, rfl⟩

theorem own_keep {w w' : World} {base : Nat} {e : TypeId} {size : Nat} {v : Value} {n : Nat} {xs : List Value} (h : w.ownsRow base e size v n xs) (hb : Below w.heap.size w w') : w'.ownsRow base e size v n xs :=
  h.kept (row := none) ⟨hb.os, hb.tape, hb.output, hb.size, fun k hk _ => hb.block k hk⟩ (by cases hv : v.ownBlock <;> simp)

theorem u8_of_wf {n : Int} (h : (Lit.int .u8 n).wf = true) : ((UInt8.ofNat n.toNat).toNat : Int) = n := by
  have := bounds_u8 h
  simp; omega

theorem rdB_of_ints {w : World} {x : Addr} {l c : Nat} {zs : List Int} (hl : l ≤ c) (hm : c ≤ maxLen) (hz : zs.length = c)
    (hcell : ∀ i, i < zs.length → w.cell? (x.add i) = some (.int .u8 (zs.getD i 0))) (hw : ∀ n ∈ zs, (Lit.int .u8 n).wf = true) : ∃ bs, RdB w (some x) l c bs := by
  refine ⟨(zs.take l).map fun n => UInt8.ofNat n.toNat, by simp; omega, hl, hm, (fun e => nomatch e), ?_, ?_⟩
  · intro hc
    have h0 := hcell 0 (by omega)
    obtain ⟨b, o, sp⟩ := x
    have hs : sp = none := by simpa [Addr.add] using World.cell?_spot h0
    exact ⟨b, o, by rw [hs]⟩
  · intro b o e i v hi
    cases e
    simp only [List.map_map, List.getElem?_map, List.getElem?_take] at hi
    split at hi
    · rename_i hil
      have hic : i < zs.length := by omega
      rw [List.getElem?_eq_getElem hic] at hi
      simp only [Option.map_some, Function.comp, Option.some.injEq] at hi
      subst hi
      have := hcell i hic
      rw [addr_add] at this
      rw [this, u8v, u8_of_wf (hw _ (List.getElem_mem hic))]
      simp [List.getD, hic]
    · simp at hi

section
variable {H : Type} {enc : TypeId × Value → H} {P : Program} {w : World} {base : Nat} {held : Bool}

theorem open_B {t e : TypeId} (ht : P.underlying t = some (.slice e)) (he : P.underlying e = some (.int .u8)) (ce : P.cellsOf e = 1) {a : Option Addr} {n c : Nat} {d : DataW H} {p : List MemPlace}
    (h : DataW.Trod enc P w base (fun _ => true) held t (.slice a n c) d p) : ∃ bs, RdB w a n c bs := by
  obtain ⟨fuel, hf⟩ := h
  rcases open_ints ht he ce hf with ⟨hcs, _⟩ | ⟨x, l, cap, zs, hcs, _, hl, hm, hz, _, hcell, hwz⟩
  · simp [Value.cells] at hcs
    obtain ⟨rfl, rfl, rfl⟩ := hcs
    exact ⟨[], Rd.nil_mk⟩
  · simp [Value.cells] at hcs
    obtain ⟨rfl, rfl, rfl⟩ := hcs
    exact rdB_of_ints hl hm (by simpa using hz) hcell hwz

theorem open_BB {t e q : TypeId} (ht : P.underlying t = some (.slice e)) (he : P.underlying e = some (.slice q)) (hq : P.underlying q = some (.int .u8)) (ce : P.cellsOf e = 1) (cq : P.cellsOf q = 1)
    {a : Option Addr} {n c : Nat} {d : DataW H} {p : List MemPlace}
    (h : DataW.Trod enc P w base (fun _ => true) held t (.slice a n c) d p) : ∃ l, RdBB w a n c l := by
  obtain ⟨fuel, hf⟩ := h
  rcases Deep.open_int_rows ht he hq ce cq hf with ⟨hcs, _⟩ | ⟨x, len, cap, A, L, C, Z, hcs, _, hl, hm, _, hr⟩
  · simp [Value.cells] at hcs
    obtain ⟨rfl, rfl, rfl⟩ := hcs
    exact ⟨[], rfl, Nat.le_refl _, Nat.zero_le _, fun _ => rfl, fun h => absurd h (by omega), (fun b o e => nomatch e)⟩
  · simp [Value.cells] at hcs
    obtain ⟨rfl, rfl, rfl⟩ := hcs
    have each : ∀ r, r < c → ∃ bs, RdB w (A r) (L r) (C r) bs := by
      intro r hr'
      obtain ⟨hc, h1, h2, h3, h4, h5, h6⟩ := hr r hr'
      cases hA : A r with
      | none =>
        have := h5 hA
        have hL : L r = 0 := by omega
        rw [hL, this]
        exact ⟨[], Rd.nil_mk⟩
      | some a' => exact rdB_of_ints h1 h2 h3 (fun i hi => (h6 a' hA).2 i (by omega)) h4
    have hf' : ∃ f : Nat → List UInt8, ∀ r, r < c → RdB w (A r) (L r) (C r) (f r) :=
      ⟨fun r => if h : r < c then Classical.choose (each r h) else [], fun r hr' => by simp only [hr', dif_pos]; exact Classical.choose_spec (each r hr')⟩
    obtain ⟨f, hf'⟩ := hf'
    refine ⟨(List.range n).map f, by simp, hl, hm, (fun e => nomatch e), ?_, ?_⟩
    · intro hc
      have h0 := (hr 0 hc).1
      obtain ⟨b, o, sp⟩ := x
      have hs : sp = none := by simpa [Addr.add] using World.cell?_spot h0
      exact ⟨b, o, by rw [hs]⟩
    · intro b o e i hi
      cases e
      have := (hr i (by omega)).1
      rw [addr_add] at this
      refine ⟨_, _, _, this, ?_⟩
      have h2 := hf' i (by omega)
      simpa [List.getD, hi] using h2
end
end Go.NB
