/- What stands while a message is got. -/
import Derived.Test.YtadgokegjmigoaaDoorMgh
namespace Go.Proofs.YtadgokegjmigoaaDoor
open Go.RowKit Go.Shelf
open Go.NB (Rd Kp Stp Off Dis oneB dB Rw RdU Lp Rr encU encB)

/-- The first i fields are read. -/
def rdI (k : Nat) (b : List UInt8) (i : Nat) : Rr × Mm := readFs ((List.range i).filter fun f => (flds k).contains f) { mm0 with kind := (k : Int) } ⟨b, 0⟩
theorem rdI_no (k : Nat) (b : List UInt8) (i : Nat) (h : (flds k).contains i = false) : rdI k b (i + 1) = rdI k b i := by
  unfold rdI; rw [List.range_succ, List.filter_append, List.filter_cons, h]; simp
theorem rdI_yes (k : Nat) (b : List UInt8) (i : Nat) (h : (flds k).contains i = true) : rdI k b (i + 1) = readF i (rdI k b i).2 (rdI k b i).1 := by
  unfold rdI; rw [List.range_succ, List.filter_append, List.filter_cons, h, if_pos rfl, List.filter_nil, readFs_app]; rfl
theorem rdI_all (k : Nat) (b : List UInt8) (h : k < 19) : rdI k b 10 = readFs (flds k) { mm0 with kind := (k : Int) } ⟨b, 0⟩ := by unfold rdI; rw [flds_sorted k h]
theorem rdI_stick (k : Nat) (b : List UInt8) (i : Nat) (h : (rdI k b i).1.e ≠ 0) : ∀ d, (rdI k b (i + d)).1 = (rdI k b i).1
  | 0 => rfl
  | d + 1 => by
    have ih := rdI_stick k b i h d
    by_cases hc : (flds k).contains (i + d) = true
    · rw [show i + (d + 1) = i + d + 1 by omega, rdI_yes k b _ hc, readF_stick _ _ _ (by rw [ih]; exact h)]; exact ih
    · rw [show i + (d + 1) = i + d + 1 by omega, rdI_no k b _ (by simpa using hc)]; exact ih
theorem rdI_len (k : Nat) (b : List UInt8) (i : Nat) (hi : i ≤ 10) (h : (rdI k b i).1.e = 0) : (rdI k b i).1.b.length ≤ b.length := by
  have hl : ∀ f ∈ (List.range i).filter (fun f => (flds k).contains f), f < 10 := fun f hf => by
    have := List.mem_range.1 (List.mem_filter.1 hf).1; omega
  obtain ⟨_, h2⟩ := readFs_inv _ hl (List.nodup_range.filter _) _ b h
  have := congrArg List.length h2
  rw [List.length_append] at this
  show (readFs _ _ _).1.b.length ≤ _
  omega
theorem readF_vb (f : Nat) (m : Mm) (r : Rr) (h : f < 8) : (readF f m r).2.vec = m.vec ∧ (readF f m r).2.body = m.body := by
  have : f = 0 ∨ f = 1 ∨ f = 2 ∨ f = 3 ∨ f = 4 ∨ f = 5 ∨ f = 6 ∨ f = 7 := by omega
  rcases this with rfl | rfl | rfl | rfl | rfl | rfl | rfl | rfl <;> exact ⟨rfl, rfl⟩
theorem flds_last : ∀ k, k < 19 → (flds k).contains 8 = true → (flds k).contains 9 = false := by decide

structure GS (w : World) (pr rb bm r2 r3 kbx b8 lo : Nat) (k : Int) (r : Rr) (W : World) : Prop where
  rd : ∃ F, HasR W rb pr F r ∧ ∀ j, F j → j ≠ bm ∧ j ≠ r2 ∧ j ≠ r3 ∧ j ≠ kbx ∧ j ≠ b8 ∧ j ≠ lo ∧ j ≠ lo + 1
  c2 : Rw W r2 (msgV mm0 none 0 none 0) 32
  c3 : Rw W r3 [.int .i64 0] 24
  kb : Rw W kbx [.int .i64 k] 3
  ptr : Rw W b8 [.pointer (some ⟨pr, 0, none⟩)] 61
  bel : Below w.heap.size w W
  lt : lo + 1 < W.heap.size
  ap : w.heap.size ≤ r2 ∧ r2 < r3 ∧ r3 < bm ∧ bm < b8 ∧ b8 < kbx ∧ kbx < lo ∧ w.heap.size ≤ rb
/-- The message's box, before its rows are read; and behind. -/
def GA (bm : Nat) (m : Mm) (W : World) : Prop := Rw W bm (msgV m none 0 none 0) 32 ∧ m.vec = [] ∧ m.body = []
def GF (bm lo : Nat) (m : Mm) (W : World) : Prop := ∃ av cv ab cb, Rw W bm (msgV m av cv ab cb) 32 ∧ MsgR W m av cv ab cb ∧ (∀ j o, av = some ⟨j, o, none⟩ → lo + 2 ≤ j) ∧ (∀ j o, ab = some ⟨j, o, none⟩ → lo + 2 ≤ j)
section
variable {w W W' : World} {pr rb bm r2 r3 kbx b8 lo : Nat} {k : Int} {r r' : Rr} {m : Mm} {F F' : Nat → Prop}
theorem GS.loop (h : GS w pr rb bm r2 r3 kbx b8 lo k r W) (o : Obj) : GS w pr rb bm r2 r3 kbx b8 lo k r (W.putObj (lo + 1) o) := by
  have hk := NB.kp_put W (lo + 1) o
  obtain ⟨F, hr, hF⟩ := h.rd
  have ha := h.ap
  have hs := hk.size
  exact ⟨⟨F, hr.keep hk (fun j hf e => (hF j hf).2.2.2.2.2.2 e), hF⟩, h.c2.keep hk (by omega), h.c3.keep hk (by omega), h.kb.keep hk (by omega), h.ptr.keep hk (by omega), h.bel.trans (hk.belowB h.bel.size (by rintro j rfl; omega)), Nat.lt_of_lt_of_le h.lt hs, ha⟩
theorem GA.loop (h : GA bm m W) (hb : bm < lo) (o : Obj) : GA bm m (W.putObj (lo + 1) o) := ⟨h.1.keep (NB.kp_put W (lo + 1) o) (by omega), h.2⟩
theorem GF.put (h : GF bm lo m W) (hb : bm < lo) (l : Nat) (hl : lo ≤ l) (hl2 : l ≤ lo + 1) (o : Obj) : GF bm lo m (W.putObj l o) := by
  obtain ⟨av, cv, ab, cb, h1, h2, h3, h4⟩ := h
  have hk := NB.kp_put W l o
  exact ⟨av, cv, ab, cb, h1.keep hk (by omega), ⟨⟨hk.rd h2.vec.1 (fun b o e _ hh => by have := h3 b o e; omega), h2.vec.2⟩, hk.rdB h2.body (fun b o e _ hh => by have := h4 b o e; omega)⟩, h3, h4⟩
theorem GS.step (h : GS w pr rb bm r2 r3 kbx b8 lo k r W) (hF : ∀ j, F j → j ≠ bm ∧ j ≠ r2 ∧ j ≠ r3 ∧ j ≠ kbx ∧ j ≠ b8 ∧ j ≠ lo ∧ j ≠ lo + 1) (hb : ∀ j, F j → rb ≤ j) (hr : HasR W' rb pr F' r') (hbm : ¬ F' bm) (hS : Stp (fun j => F j ∨ j = bm) (fun j => F' j ∨ j = bm) W W') :
    GS w pr rb bm r2 r3 kbx b8 lo k r' W' ∧ Kp (fun j => j ≠ lo ∧ j ≠ lo + 1) W W' := by
  have ha := h.ap
  have hlt := h.lt
  have hs := hS.size
  have nF : ∀ j, j ≠ bm → (∀ i, F i → i ≠ j) → ¬ (F j ∨ j = bm) := fun j h1 h2 hh => hh.elim (fun hf => h2 j hf rfl) h1
  refine ⟨⟨⟨F', hr, fun j hj => ?_⟩, h.c2.keep hS.kp (nF _ (by omega) (fun i hi => (hF i hi).2.1)), h.c3.keep hS.kp (nF _ (by omega) (fun i hi => (hF i hi).2.2.1)), h.kb.keep hS.kp (nF _ (by omega) (fun i hi => (hF i hi).2.2.2.1)), h.ptr.keep hS.kp (nF _ (by omega) (fun i hi => (hF i hi).2.2.2.2.1)),
    h.bel.trans (hS.low h.bel.size (fun j hj => hj.elim (fun hf => Nat.le_trans ha.2.2.2.2.2.2 (hb j hf)) (fun e => by omega))), Nat.lt_of_lt_of_le hlt hs, ha⟩, hS.kp.imp fun j hj => hj.elim (fun hf => ⟨(hF j hf).2.2.2.2.2.1, (hF j hf).2.2.2.2.2.2⟩) (fun e => by omega)⟩
  have hnb : j ≠ bm := fun e => hbm (e ▸ hj)
  rcases hS.sub j (.inl hj) with (h1 | h1) | h1
  · exact hF j h1
  · exact absurd h1 hnb
  · refine ⟨hnb, ?_, ?_, ?_, ?_, ?_, ?_⟩ <;> omega
end
/-- A field is read. -/
def FieldE (w : World) (pr rb bm r2 r3 kbx b8 lo : Nat) (k : Int) (f : Nat) (m : Mm) (r : Rr) (W : World) (e : Ending) (W' : World) : Prop :=
  e = .returned (.int .i64 (readF f m r).1.e) ∧ Kp (fun j => j ≠ lo ∧ j ≠ lo + 1) W W' ∧ Rw W' r2 (msgV mm0 none 0 none 0) 32 ∧ Rw W' r3 [.int .i64 0] 24 ∧ Below w.heap.size w W' ∧ W.heap.size ≤ W'.heap.size ∧
    ((readF f m r).1.e = 0 → GS w pr rb bm r2 r3 kbx b8 lo k (readF f m r).1 W' ∧ GF bm lo (readF f m r).2 W' ∧ (f < 8 → GA bm (readF f m r).2 W'))
theorem field_any (w W : World) (pr rb bm r2 r3 kbx b8 lo : Nat) (k : Int) (m : Mm) (r : Rr) (hG : GS w pr rb bm r2 r3 kbx b8 lo k r W) (hA : GA bm m W) (hlen : r.b.length ≤ 100000000000) (f : Nat) (hf : f < 10) (x : Int) (hx : x = ((2 ^ f : Nat) : Int)) :
    Calls Tryd.prog 26 #[.pointer (some ⟨bm, 0, none⟩), .pointer (some ⟨pr, 0, none⟩), .int .u64 x] W (FieldE w pr rb bm r2 r3 kbx b8 lo k f m r W) := by
  obtain ⟨F, hr, hF⟩ := hG.rd
  obtain ⟨h1, h2, h3⟩ := hA
  have ha := hG.ap
  have hlt := hG.lt
  refine (mreadF_any W rb pr bm F m r hr h1 (fun h => (hF bm h).1 rfl) h2 h3 hlen f hf x hx).mono ?_
  rintro e W' ⟨F', rfl, hS, hok⟩
  have nF : ∀ j, j ≠ bm → (∀ i, F i → i ≠ j) → ¬ (F j ∨ j = bm) := fun j h1 h2 hh => hh.elim (fun hf => h2 j hf rfl) h1
  have hb : ∀ j, F j → rb ≤ j := fun j hj => (hr.foot j hj).1
  refine ⟨rfl, hS.kp.imp fun j hj => hj.elim (fun hf => ⟨(hF j hf).2.2.2.2.2.1, (hF j hf).2.2.2.2.2.2⟩) (fun e => by omega), hG.c2.keep hS.kp (nF _ (by omega) (fun i hi => (hF i hi).2.1)), hG.c3.keep hS.kp (nF _ (by omega) (fun i hi => (hF i hi).2.2.1)),
    hG.bel.trans (hS.low hG.bel.size (fun j hj => hj.elim (fun hf => Nat.le_trans ha.2.2.2.2.2.2 (hb j hf)) (fun e => by omega))), hS.size, fun he => ?_⟩
  obtain ⟨i1, i2, av, cv, ab, cb, i3, i4, i5, i6, i7⟩ := hok he
  refine ⟨(hG.step hF hb i1 i2 hS).1, ⟨av, cv, ab, cb, i4, i5, fun j o e => by have := i6 j o e; omega, fun j o e => by have := i7 j o e; omega⟩, fun h8 => ?_⟩
  obtain ⟨rfl, rfl, rfl, rfl⟩ := i3 h8
  exact ⟨i4, (readF_vb f m r h8).1.trans h2, (readF_vb f m r h8).2.trans h3⟩
end Go.Proofs.YtadgokegjmigoaaDoor
