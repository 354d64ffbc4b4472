/- What a call keeps of memory: only some blocks may turn; a thing's own blocks; bytes that lie outside of them. No program in sight. -/
import Derived.Test.YtjfidhjnbcmhfaaTail
namespace Go.NB
open Go Go.RowKit

/-! ### What memory keeps -/

/-- Of what there was only blocks of 'F' may have turned. -/
structure Kp (F : Nat → Prop) (w w' : World) : Prop where
  os : w'.os = w.os
  tape : w'.tape = w.tape
  output : w'.output = w.output
  size : w.heap.size ≤ w'.heap.size
  block : ∀ k, k < w.heap.size → ¬ F k → w'.heap[k]? = w.heap[k]?

theorem Kp.refl (F : Nat → Prop) (w : World) : Kp F w w := ⟨rfl, rfl, rfl, Nat.le_refl _, fun _ _ _ => rfl⟩
theorem Kp.trans {F G : Nat → Prop} {a b c : World} (h : Kp F a b) (k : Kp G b c) (hs : ∀ i, G i → F i ∨ a.heap.size ≤ i) : Kp F a c :=
  ⟨k.os.trans h.os, k.tape.trans h.tape, k.output.trans h.output, Nat.le_trans h.size k.size, fun i hi hF => (k.block i (Nat.lt_of_lt_of_le hi h.size) (fun hG => by
    rcases hs i hG with h1 | h1
    · exact hF h1
    · omega)).trans (h.block i hi hF)⟩
theorem Kp.of_below {F : Nat → Prop} {a b : World} (h : Below a.heap.size a b) : Kp F a b := ⟨h.os, h.tape, h.output, h.size, fun k hk _ => h.block k hk⟩
theorem Kp.trans_below {F : Nat → Prop} {a b c : World} {B : Nat} (h : Kp F a b) (k : Below B b c) (hB : a.heap.size ≤ B) : Kp F a c :=
  h.trans (G := fun i => B ≤ i) ⟨k.os, k.tape, k.output, k.size, fun i _ hG => k.block i (by omega)⟩ (fun i hi => .inr (Nat.le_trans hB hi))
theorem Kp.below {F : Nat → Prop} {a b : World} (h : Kp F a b) (hF : ∀ k, F k → a.heap.size ≤ k) : Below a.heap.size a b := ⟨h.os, h.tape, h.output, h.size, fun k hk => h.block k hk (fun hf => by have := hF k hf; omega)⟩
theorem Kp.belowB {F : Nat → Prop} {a b : World} {B : Nat} (h : Kp F a b) (hB : B ≤ a.heap.size) (hF : ∀ k, F k → B ≤ k) : Below B a b := ⟨h.os, h.tape, h.output, h.size, fun k hk => h.block k (by omega) (fun hf => by have := hF k hf; omega)⟩
theorem Kp.imp {F G : Nat → Prop} {a b : World} (h : Kp F a b) (hs : ∀ k, F k → G k) : Kp G a b := ⟨h.os, h.tape, h.output, h.size, fun k hk hG => h.block k hk (fun hf => hG (hs k hf))⟩
theorem Kp.setCell {F : Nat → Prop} {a w : World} (h : Kp F a w) {x : Addr} (hx : F x.block ∨ a.heap.size ≤ x.block) (u : Value) : Kp F a (w.setCell x u) :=
  ⟨h.os, h.tape, h.output, by simpa [World.setCell] using h.size, fun k hk hF => (Below.heap_setCell w x u k (fun e => by
    subst e
    rcases hx with h1 | h1
    · exact hF h1
    · omega)).trans (h.block k hk hF)⟩
theorem Kp.alloc {F : Nat → Prop} {a w : World} (h : Kp F a w) (o : Obj) : Kp F a (w.alloc o) :=
  ⟨h.os, h.tape, h.output, Nat.le_trans h.size (by simp), fun k hk hF => (Below.heap_alloc w o k (Nat.lt_of_lt_of_le hk h.size)).trans (h.block k hk hF)⟩
theorem Kp.alloc_left {F : Nat → Prop} {a b : World} {o : Obj} (h : Kp F (a.alloc o) b) : Kp F a b :=
  ((Kp.refl F a).alloc o).trans h (fun _ h => .inl h)
theorem Kp.drew {F : Nat → Prop} {a w : World} (h : Kp F a w) : Kp F a w.drew := ⟨h.os, h.tape, h.output, h.size, h.block⟩
theorem Kp.drewN {F : Nat → Prop} {a w : World} (h : Kp F a w) (n : Nat) : Kp F a (w.drewN n) := ⟨h.os, h.tape, h.output, h.size, h.block⟩
theorem Kp.grown {F : Nat → Prop} {a w w' : World} {row : Option Nat} (h : Kp F a w) (hg : w.grownBy w' row) (hr : ∀ k, row = some k → F k ∨ a.heap.size ≤ k) : Kp F a w' :=
  ⟨hg.os.trans h.os, hg.tape.trans h.tape, hg.output.trans h.output, Nat.le_trans h.size hg.size, fun k hk hF => (hg.block k (Nat.lt_of_lt_of_le hk h.size) (fun e => by
    rcases hr k e.symm with h1 | h1
    · exact hF h1
    · omega)).trans (h.block k hk hF)⟩
/-- What lies outside of what may turn reads as it did. -/
theorem Kp.rd {F : Nat → Prop} {w w' : World} {size : Nat} {a : Option Addr} {n c : Nat} {vs : List Value} (h : Kp F w w') (r : Rd size w a n c vs) (hF : ∀ b o, a = some ⟨b, o, none⟩ → vs ≠ [] → ¬ F b) : Rd size w' a n c vs :=
  r.keep fun b o e hn => h.block b (r.lt b o e hn) (hF b o e hn)
theorem Kp.rdB {F : Nat → Prop} {w w' : World} {a : Option Addr} {n c : Nat} {bs : List UInt8} (h : Kp F w w') (r : RdB w a n c bs) (hF : ∀ b o, a = some ⟨b, o, none⟩ → bs ≠ [] → ¬ F b) : RdB w' a n c bs :=
  h.rd r fun b o e hn => hF b o e (by rintro rfl; exact hn rfl)
theorem Kp.own {F : Nat → Prop} {w w' : World} {base : Nat} {e : TypeId} {size : Nat} {v : Value} {n : Nat} {xs : List Value} (h : Kp F w w') (r : w.ownsRow base e size v n xs) (hF : ∀ k, v.ownBlock = some k → ¬ F k) : w'.ownsRow base e size v n xs := by
  refine ⟨r.1, ?_⟩
  rcases r.2 with hn | ⟨g, cap, cur, rfl, hb, hgg, rest⟩
  · exact .inl hn
  · refine .inr ⟨g, cap, cur, rfl, hb, ?_, rest⟩
    rw [h.block g (Array.getElem?_eq_some_iff.1 hgg).1 (hF g rfl)]
    exact hgg

/-- A block of bytes reads as these. -/
theorem rdB_row {w : World} {g : Nat} {b : List UInt8} {t : TypeId} {fr : Nat × Nat} (h : w.heap[g]? = some (.cells (b.map u8v).toArray t fr)) {n : Nat} (hn : b.length = n) (hm : n ≤ maxLen) : RdB w (some ⟨g, 0, none⟩) n n b :=
  ⟨by simpa using hn, Nat.le_refl _, hm, (fun e => nomatch e), (fun _ => ⟨_, _, rfl⟩), fun bb o e i v hi => by
    cases e
    rw [Nat.zero_add, cell_of_row w g i _ t fr h]
    simpa using hi⟩


/-! ### Steps of a thing that holds blocks of its own -/

/-- A step: only blocks of 'F' may turn, and what is held behind it lay in 'F', or is new. -/
structure Stp (F F' : Nat → Prop) (w w' : World) : Prop where
  kp : Kp F w w'
  sub : ∀ k, F' k → F k ∨ w.heap.size ≤ k
theorem Stp.refl (F : Nat → Prop) (w : World) : Stp F F w w := ⟨Kp.refl F w, fun _ h => .inl h⟩
theorem Stp.trans {F F' F2 : Nat → Prop} {a b c : World} (h : Stp F F' a b) (k : Stp F' F2 b c) : Stp F F2 a c :=
  ⟨h.kp.trans k.kp h.sub, fun i hi => by
    rcases k.sub i hi with h1 | h1
    · exact h.sub i h1
    · exact .inr (Nat.le_trans h.kp.size h1)⟩
theorem Stp.of_below {F : Nat → Prop} {w w' : World} (h : Below w.heap.size w w') : Stp F F w w' := ⟨Kp.of_below h, fun _ h => .inl h⟩
theorem Stp.low {F F' : Nat → Prop} {w w' : World} {base : Nat} (h : Stp F F' w w') (hb : base ≤ w.heap.size) (hF : ∀ k, F k → base ≤ k) : Below base w w' := h.kp.belowB hb hF
theorem Stp.size {F F' : Nat → Prop} {w w' : World} (h : Stp F F' w w') : w.heap.size ≤ w'.heap.size := h.kp.size
theorem Stp.alloc_left {F F' : Nat → Prop} {a b : World} {o : Obj} (h : Stp F F' (a.alloc o) b) : Stp F F' a b :=
  ⟨h.kp.alloc_left, fun k hk => by
    rcases h.sub k hk with h1 | h1
    · exact .inl h1
    · exact .inr (by simp at h1; omega)⟩
theorem Stp.below {F F' : Nat → Prop} {a b c : World} {B : Nat} (h : Stp F F' a b) (hb : Below B b c) (hB : a.heap.size ≤ B) : Stp F F' a c := ⟨h.kp.trans_below hb hB, h.sub⟩
theorem Stp.drewN {F F' : Nat → Prop} {a b : World} (h : Stp F F' a b) (n : Nat) : Stp F F' a (b.drewN n) := ⟨h.kp.drewN n, h.sub⟩

theorem Stp.add {F F' : Nat → Prop} {a b : World} (h : Stp F F' a b) (G : Nat → Prop) : Stp (fun k => F k ∨ G k) (fun k => F' k ∨ G k) a b :=
  ⟨h.kp.imp (fun _ h => .inl h), fun k hk => by
    rcases hk with hk | hk
    · rcases h.sub k hk with h1 | h1
      · exact .inl (.inl h1)
      · exact .inr h1
    · exact .inl (.inr hk)⟩
theorem Stp.of_kp {F : Nat → Prop} {a b : World} (h : Kp F a b) : Stp F F a b := ⟨h, fun _ h => .inl h⟩

/-- Two things apart. -/
def Dis (F G : Nat → Prop) : Prop := ∀ k, F k → ¬ G k
theorem Dis.symm {F G : Nat → Prop} (h : Dis F G) : Dis G F := fun k hg hf => h k hf hg
theorem Dis.step {F G G' : Nat → Prop} {w w' : World} (h : Dis F G) (hF : ∀ k, F k → k < w.heap.size) (hs : Stp G G' w w') : Dis F G' := fun k hf hg => by
  rcases hs.sub k hg with h1 | h1
  · exact h k hf h1
  · have := hF k hf; omega
theorem Dis.fresh {F G : Nat → Prop} {B : Nat} (hF : ∀ k, F k → k < B) (hG : ∀ k, G k → B ≤ k) : Dis F G := fun k hf hg => by have := hF k hf; have := hG k hg; omega

/-- Bytes that lie outside of a thing's blocks. -/
structure Off (F : Nat → Prop) (w : World) (a : Option Addr) (n c : Nat) (bs : List UInt8) : Prop where
  rd : RdB w a n c bs
  nf : ∀ k o, a = some ⟨k, o, none⟩ → bs ≠ [] → ¬ F k
section
variable {F F' : Nat → Prop} {w w' : World} {a : Option Addr} {n c : Nat} {bs : List UInt8}
theorem Off.step (h : Off F w a n c bs) (hs : Stp F F' w w') : Off F' w' a n c bs :=
  ⟨hs.kp.rdB h.rd h.nf, fun k o e hn hf => by
    rcases hs.sub k hf with h1 | h1
    · exact h.nf k o e hn h1
    · have := h.rd.lt k o e (by simpa using hn)
      omega⟩
theorem Off.below (h : Off F w a n c bs) (hb : Below w.heap.size w w') : Off F w' a n c bs := ⟨h.rd.below hb, h.nf⟩
theorem Off.alloc (h : Off F w a n c bs) (o : Obj) : Off F (w.alloc o) a n c bs := h.below ((Below.refl _ _).alloc (Nat.le_refl _) o)
/-- What lies below the thing. -/
theorem Off.under {base : Nat} (r : RdB w a n c bs) (hl : ∀ k o, a = some ⟨k, o, none⟩ → bs ≠ [] → k < base) (hF : ∀ k, F k → base ≤ k) : Off F w a n c bs :=
  ⟨r, fun k o e hn hf => by have := hF k hf; have := hl k o e hn; omega⟩
/-- What was there before the thing. -/
theorem Off.old {w0 : World} (r0 : RdB w0 a n c bs) (hb : Below w0.heap.size w0 w) (hF : ∀ k, F k → w0.heap.size ≤ k) : Off F w a n c bs :=
  Off.under (base := w0.heap.size) (r0.below hb) (fun k o e hn => r0.lt k o e (by simpa using hn)) hF
/-- What is made behind the thing. -/
theorem Off.fresh {t : TypeId} {b2 : Nat} (ho : OwnB w b2 t (.slice a bs.length c) bs) (hF : ∀ k, F k → k < b2) : Off F w a bs.length c bs := by
  obtain ⟨a1, c1, e1, hr, hl, _⟩ := rd_of_own ho
  cases e1
  exact ⟨hr, fun k o e _ hf => by have := hF k hf; have := (hl k o e).1; omega⟩
end

/-! ### A row of the call's own that grows -/

def HasO (t : TypeId) (size : Nat) (w : World) (base : Nat) (F : Nat → Prop) (v : Value) (n : Nat) (vs : List Value) : Prop := w.ownsRow base t size v n vs ∧ F = fun k => v.ownBlock = some k
section
variable {t : TypeId} {size n m base : Nat} {F F' : Nat → Prop} {w w' : World} {v v' : Value} {vs vs' : List Value}
theorem HasO.foot (h : HasO t size w base F v n vs) (k : Nat) (hk : F k) : base ≤ k ∧ k < w.heap.size := by
  obtain ⟨h, rfl⟩ := h
  exact h.lt k hk
theorem HasO.keep {G : Nat → Prop} (h : HasO t size w base F v n vs) (hk : Kp G w w') (hG : Dis F G) : HasO t size w' base F v n vs := by
  obtain ⟨h, rfl⟩ := h
  exact ⟨hk.own h fun k e => hG k e, rfl⟩
theorem HasO.below (h : HasO t size w base F v n vs) (hb : Below w.heap.size w w') : HasO t size w' base F v n vs := h.keep (G := fun _ => False) (Kp.of_below hb) (fun _ _ h => h)
/-- Behind an append. -/
theorem HasO.grown (h : HasO t size w base F v n vs) (ho : w'.ownsRow base t size v' m vs') (hg : w.grownBy w' v.ownBlock) (hv : ∀ k, v'.ownBlock = some k → v.ownBlock = some k ∨ w.heap.size ≤ k) :
    HasO t size w' base (fun k => v'.ownBlock = some k) v' m vs' ∧ Stp F (fun k => v'.ownBlock = some k) w w' := by
  obtain ⟨h, rfl⟩ := h
  exact ⟨⟨ho, rfl⟩, (Kp.refl _ _).grown hg (fun k e => .inl e), hv⟩
theorem hasO_nil (t : TypeId) (size : Nat) (w : World) (base : Nat) : HasO t size w base (fun _ => False) (.slice none 0 0) 0 [] := ⟨World.ownsRow_nil _ _ _ _, by funext k; simp [Value.ownBlock]⟩
end
end Go.NB
