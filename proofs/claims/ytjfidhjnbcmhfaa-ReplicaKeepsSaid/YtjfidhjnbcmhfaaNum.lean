/- Numbers as bytes, in plain lists; how a writer and a reader lie in memory. No program in sight. -/
import Derived.Test.YtjfidhjnbcmhfaaKp
namespace Go.NB
open Go Go.RowKit

/-! ### A number's bytes -/

/-- A number's bytes, the highest first. -/
def digs (x : Nat) : List UInt8 := if h : x = 0 then [] else digs (x / 256) ++ [UInt8.ofNat (x % 256)]
termination_by x
decreasing_by omega

theorem digs_zero : digs 0 = [] := by rw [digs]; simp
theorem digs_pos (x : Nat) (h : x ≠ 0) : digs x = digs (x / 256) ++ [UInt8.ofNat (x % 256)] := by rw [digs]; simp [h]

theorem digs_len_le (n : Nat) : ∀ x, x < 256 ^ n ↔ (digs x).length ≤ n := by
  induction n with
  | zero =>
    intro x
    by_cases h : x = 0
    · subst h; simp [digs_zero]
    · rw [digs_pos x h]; simp; omega
  | succ n ih =>
    intro x
    by_cases h : x = 0
    · subst h; simp [digs_zero, Nat.pow_pos]
    · rw [digs_pos x h, List.length_append, List.length_singleton]
      have := ih (x / 256)
      rw [Nat.pow_succ, ← Nat.div_lt_iff_lt_mul (by omega), this]
      omega

theorem digs_drop (j : Nat) : ∀ x, (digs (x / 256 ^ j)) = (digs x).take ((digs x).length - j) := by
  induction j with
  | zero => intro x; simp
  | succ j ih =>
    intro x
    by_cases h : x = 0
    · subst h; simp [digs_zero]
    · rw [Nat.pow_succ, Nat.mul_comm, ← Nat.div_div_eq_div_mul, ih (x / 256), digs_pos x h, List.length_append, List.length_singleton]
      rw [show (digs (x / 256)).length + 1 - (j + 1) = (digs (x / 256)).length - j by omega]
      rw [List.take_append_of_le_length (by omega)]

/-- The byte that is put when 'n' are left. -/
theorem digs_at (x n : Nat) (h : n < (digs x).length) : (digs x).take ((digs x).length - n) = (digs x).take ((digs x).length - (n + 1)) ++ [UInt8.ofNat (x / 256 ^ n % 256)] := by
  rw [← digs_drop n x, ← digs_drop (n + 1) x]
  have hne : x / 256 ^ n ≠ 0 := by
    intro h0
    have := digs_drop n x
    rw [h0, digs_zero] at this
    have h2 := congrArg List.length this
    simp at h2
    omega
  rw [digs_pos _ hne, Nat.div_div_eq_div_mul, ← Nat.pow_succ]

theorem snoc_ind {α : Type} {p : List α → Prop} (h0 : p []) (h1 : ∀ l a, p l → p (l ++ [a])) (l : List α) : p l := by
  have : ∀ m : List α, p m.reverse := by
    intro m
    induction m with
    | nil => exact h0
    | cons a m ih => rw [List.reverse_cons]; exact h1 _ _ ih
  have h := this l.reverse
  rwa [List.reverse_reverse] at h

theorem shr_cast (x k : Nat) : (x : Int) / 2 ^ (8 * k) = ((x / 256 ^ k : Nat) : Int) := by
  have e : (2 : Int) ^ (8 * k) = ((256 ^ k : Nat) : Int) := by
    have h : (256 : Nat) ^ k = 2 ^ (8 * k) := by rw [Nat.pow_mul]
    rw [h]; simp
  rw [e]
  exact (Int.natCast_ediv x _).symm
theorem shr_zero (x k : Nat) : ((x : Int) / 2 ^ (8 * k) == 0) = decide ((digs x).length ≤ k) := by
  rw [shr_cast, Bool.eq_iff_iff]
  simp only [beq_iff_eq, decide_eq_true_eq]
  rw [← digs_len_le]
  have hp : 0 < 256 ^ k := Nat.pow_pos (by omega)
  constructor
  · intro h
    have h' : x / 256 ^ k = 0 := by omega
    exact (Nat.div_eq_zero_iff_lt hp).1 h'
  · intro h
    rw [Nat.div_eq_of_lt h]; rfl

theorem wrap_at (x k : Nat) : IntKind.u8.wrap ((x : Int) / 2 ^ (8 * (k : Int)).toNat) = ((UInt8.ofNat (x / 256 ^ k % 256)).toNat : Int) := by
  rw [show (8 * (k : Int)).toNat = 8 * k by omega, shr_cast, UInt8.toNat_ofNat']
  rw [IntKind.wrap_u8]
  omega

/-- Bytes as a number. -/
def val (l : List UInt8) : Nat := l.foldl (fun x c => x * 256 + c.toNat) 0
theorem val_snoc (l : List UInt8) (c : UInt8) : val (l ++ [c]) = val l * 256 + c.toNat := by simp [val, List.foldl_append]
theorem val_lt (l : List UInt8) : val l < 256 ^ l.length := by
  refine snoc_ind (p := fun l => val l < 256 ^ l.length) (by simp [val]) (fun l c ih => ?_) l
  · rw [val_snoc, List.length_append, List.length_singleton, Nat.pow_succ]
    have := c.toNat_lt
    omega
theorem val_digs (x : Nat) : val (digs x) = x := by
  induction x using Nat.strongRecOn with
  | ind x ih =>
    by_cases h : x = 0
    · subst h; simp [digs_zero, val]
    · rw [digs_pos x h, val_snoc, ih (x / 256) (by omega), UInt8.toNat_ofNat']
      omega
/-- Bytes without a nought ahead are their number's. -/
theorem digs_val (l : List UInt8) (h : l.head? ≠ some 0) : digs (val l) = l := by
  revert h
  refine snoc_ind (p := fun l => l.head? ≠ some 0 → digs (val l) = l) (by simp [val, digs_zero]) (fun l c ih h => ?_) l
  ·
    have hl : l.head? ≠ some 0 := by
      cases l with
      | nil => simp
      | cons a l => simpa using h
    have hne : val (l ++ [c]) ≠ 0 := by
      intro h0
      rw [val_snoc] at h0
      have hv : val l = 0 := by omega
      have := ih hl
      rw [hv, digs_zero] at this
      subst this
      have hc : c.toNat = 0 := by omega
      apply h
      simp
      exact UInt8.toNat_inj.1 hc
    have hc := c.toNat_lt
    rw [digs_pos _ hne, val_snoc, show (val l * 256 + c.toNat) / 256 = val l by omega, ih hl, show (val l * 256 + c.toNat) % 256 = c.toNat by omega]
    simp

theorem digs_head (x : Nat) : (digs x).head? ≠ some 0 := by
  induction x using Nat.strongRecOn with
  | ind x ih =>
    by_cases h : x = 0
    · subst h; simp [digs_zero]
    · rw [digs_pos x h]
      cases hd : digs (x / 256) with
      | nil =>
        have hx : x / 256 = 0 := by
          by_cases h0 : x / 256 = 0
          · exact h0
          · rw [digs_pos _ h0] at hd; simp at hd
        simp
        intro h2
        have := congrArg UInt8.toNat h2
        rw [UInt8.toNat_ofNat'] at this
        simp at this
        omega
      | cons a l =>
        have := ih (x / 256) (by omega)
        rw [hd] at this
        simpa using this

/-- What is put for a number; for bytes. -/
def encU (x : Nat) : List UInt8 := UInt8.ofNat (digs x).length :: digs x
def encB (b : List UInt8) : List UInt8 := encU b.length ++ b
theorem digs_le8 {x : Nat} (h : x < 18446744073709551616) : (digs x).length ≤ 8 := (digs_len_le 8 x).1 (by simpa using h)
theorem encU_len {x : Nat} (h : x < 18446744073709551616) : (encU x).length ≤ 9 := by
  have := digs_le8 h
  simp [encU]; omega

/-! ### Reading -/

/-- A reader: what is left, and the first error. -/
structure Rr where
  b : List UInt8
  e : Int
namespace Rr
def fail (r : Rr) (e : Int) : Rr := if r.e = 0 then { r with e := e } else r
def take (r : Rr) (n : Nat) : Rr × List UInt8 :=
  if r.e ≠ 0 then (r, []) else if r.b.length < n then ({ r with e := 10 }, []) else ({ r with b := r.b.drop n }, r.b.take n)
def uint (r : Rr) : Rr × Nat :=
  let t := r.take 1
  match t.2 with
  | [] => (t.1, 0)
  | h :: _ =>
    if 8 < h.toNat then (t.1.fail 11, 0)
    else
      let s := t.1.take h.toNat
      if s.2.head? = some 0 then (s.1.fail 11, 0) else (s.1, val s.2)
def raw (r : Rr) (n : Int) : Rr × List UInt8 := if n < 0 then (r.fail 1, []) else r.take n.toNat
def bytes (r : Rr) (most : Int) : Rr × List UInt8 :=
  let u := r.uint
  if u.1.e ≠ 0 then (u.1, [])
  else if most < 0 ∨ most < (u.2 : Int) then (u.1.fail 13, [])
  else u.1.raw u.2
def fin (r : Rr) : Int := if r.e ≠ 0 then r.e else if r.b = [] then 0 else 12
end Rr

theorem Rr.take_len (r : Rr) (n : Nat) : (r.take n).2.length ≤ n := by
  unfold Rr.take
  split
  · simp
  · split
    · simp
    · simp; omega

/-! ### How they lie in memory -/

/-- A writer: 'tW', 'tB': the numbers of the types Writer, byte. -/
structure IsWr (tW tB : TypeId) (w : World) (base p : Nat) (v : Value) (bs : List UInt8) : Prop where
  hp : w.heap[p]? = some (.cells #[v] tW (0, 0))
  hv : OwnB w base tB v bs
  bp : base ≤ p
  ne : v.ownBlock ≠ some p
def footW (p : Nat) (v : Value) (k : Nat) : Prop := k = p ∨ v.ownBlock = some k
/-- A writer that holds the blocks 'F'. -/
def HasWr (tW tB : TypeId) (w : World) (base p : Nat) (F : Nat → Prop) (bs : List UInt8) : Prop := ∃ v, IsWr tW tB w base p v bs ∧ F = footW p v

section
variable {tW tB : TypeId} {w w' : World} {base p : Nat} {v v' : Value} {F : Nat → Prop} {bs : List UInt8}
theorem IsWr.lt (h : IsWr tW tB w base p v bs) : p < w.heap.size := (Array.getElem?_eq_some_iff.1 h.hp).1
theorem IsWr.foot (h : IsWr tW tB w base p v bs) (k : Nat) (hk : footW p v k) : base ≤ k ∧ k < w.heap.size := by
  rcases hk with rfl | hk
  · exact ⟨h.bp, h.lt⟩
  · exact h.hv.lt k hk
theorem HasWr.foot (h : HasWr tW tB w base p F bs) (k : Nat) (hk : F k) : base ≤ k ∧ k < w.heap.size := by
  obtain ⟨v, h, rfl⟩ := h
  exact h.foot k hk
theorem IsWr.keep {G : Nat → Prop} (h : IsWr tW tB w base p v bs) (hk : Kp G w w') (hG : Dis (footW p v) G) : IsWr tW tB w' base p v bs :=
  { h with hp := (hk.block p h.lt (hG p (.inl rfl))).trans h.hp, hv := hk.own h.hv fun k e => hG k (.inr e) }
theorem HasWr.keep {G : Nat → Prop} (h : HasWr tW tB w base p F bs) (hk : Kp G w w') (hG : Dis F G) : HasWr tW tB w' base p F bs := by
  obtain ⟨v, h, rfl⟩ := h
  exact ⟨v, h.keep hk hG, rfl⟩
theorem HasWr.below (h : HasWr tW tB w base p F bs) (hb : Below w.heap.size w w') : HasWr tW tB w' base p F bs := h.keep (G := fun _ => False) (Kp.of_below hb) (fun _ _ h => h)
theorem IsWr.below (h : IsWr tW tB w base p v bs) (hb : Below w.heap.size w w') : IsWr tW tB w' base p v bs := h.keep (G := fun _ => False) (Kp.of_below hb) (fun _ _ h => h)
theorem IsWr.cell (h : IsWr tW tB w base p v bs) : w.cell? ⟨p, 0, none⟩ = some v := by rw [cell_of_row w p 0 _ tW (0, 0) h.hp]; rfl
theorem IsWr.free (h : IsWr tW tB w base p v bs) : w.frozen? ⟨p, 0, none⟩ = false := frozen_of_row w p 0 _ tW h.hp
/-- What was put is stored. -/
theorem IsWr.put {cs : List UInt8} (h : IsWr tW tB w base p v bs) (hg : w.grownBy w' v.ownBlock) (ho : w'.ownsRow base tB 1 v' (bs ++ cs).length ((bs ++ cs).map u8v)) (hv : ∀ k, v'.ownBlock = some k → v.ownBlock = some k ∨ w.heap.size ≤ k) :
    IsWr tW tB (w'.setCell ⟨p, 0, none⟩ v') base p v' (bs ++ cs) where
  hp := by
    have hp' := (hg.block p h.lt (fun e => h.ne e.symm)).trans h.hp
    rw [heap_setCell_same w' p 0 _ tW v' hp']; rfl
  hv := (Kp.setCell (F := fun k => k = p) (Kp.refl _ _) (x := ⟨p, 0, none⟩) (.inl rfl) v').own ho fun k e hk => by
    subst hk
    rcases hv k e with h1 | h1
    · exact h.ne h1
    · have := h.lt; omega
  bp := h.bp
  ne := fun e => by
    rcases hv p e with h1 | h1
    · exact h.ne h1
    · have := h.lt; omega
theorem IsWr.put_stp (hg : w.grownBy w' v.ownBlock) (hv : ∀ k, v'.ownBlock = some k → v.ownBlock = some k ∨ w.heap.size ≤ k) : Stp (footW p v) (footW p v') w (w'.setCell ⟨p, 0, none⟩ v') :=
  ⟨((Kp.refl _ _).grown hg (fun k e => .inl (.inr e))).setCell (.inl (.inl rfl)) v', fun k hk => by
    rcases hk with h | h
    · exact .inl (.inl h)
    · rcases hv k h with h | h
      · exact .inl (.inr h)
      · exact .inr h⟩
end

/-- A reader: 'tR': the number of the type Reader. -/
structure IsRr (tR : TypeId) (w : World) (base p : Nat) (a : Option Addr) (n c : Nat) (r : Rr) : Prop where
  hp : w.heap[p]? = some (.cells #[.slice a n c, .int .i64 r.e] tR (0, 0))
  rd : RdB w a n c r.b
  bp : base ≤ p
  ba : ∀ k o, a = some ⟨k, o, none⟩ → base ≤ k ∧ k < w.heap.size ∧ k ≠ p
def footR (p : Nat) (a : Option Addr) (k : Nat) : Prop := k = p ∨ ∃ o, a = some ⟨k, o, none⟩
def HasRr (tR : TypeId) (w : World) (base p : Nat) (F : Nat → Prop) (r : Rr) : Prop := ∃ a n c, IsRr tR w base p a n c r ∧ F = footR p a

section
variable {tR : TypeId} {w w' : World} {base p n c : Nat} {a : Option Addr} {F : Nat → Prop} {r : Rr}
theorem IsRr.lt (h : IsRr tR w base p a n c r) : p < w.heap.size := (Array.getElem?_eq_some_iff.1 h.hp).1
theorem IsRr.foot (h : IsRr tR w base p a n c r) (k : Nat) (hk : footR p a k) : base ≤ k ∧ k < w.heap.size := by
  rcases hk with rfl | ⟨o, hk⟩
  · exact ⟨h.bp, h.lt⟩
  · exact ⟨(h.ba k o hk).1, (h.ba k o hk).2.1⟩
theorem HasRr.foot (h : HasRr tR w base p F r) (k : Nat) (hk : F k) : base ≤ k ∧ k < w.heap.size := by
  obtain ⟨a, n, c, h, rfl⟩ := h
  exact h.foot k hk
theorem IsRr.keep {G : Nat → Prop} (h : IsRr tR w base p a n c r) (hk : Kp G w w') (hG : Dis (footR p a) G) : IsRr tR w' base p a n c r :=
  { h with
    hp := (hk.block p h.lt (hG p (.inl rfl))).trans h.hp
    rd := hk.rdB h.rd fun b o e _ => hG b (.inr ⟨o, e⟩)
    ba := fun k o e => ⟨(h.ba k o e).1, Nat.lt_of_lt_of_le (h.ba k o e).2.1 hk.size, (h.ba k o e).2.2⟩ }
theorem HasRr.keep {G : Nat → Prop} (h : HasRr tR w base p F r) (hk : Kp G w w') (hG : Dis F G) : HasRr tR w' base p F r := by
  obtain ⟨a, n, c, h, rfl⟩ := h
  exact ⟨a, n, c, h.keep hk hG, rfl⟩
theorem IsRr.below (h : IsRr tR w base p a n c r) (hb : Below w.heap.size w w') : IsRr tR w' base p a n c r := h.keep (G := fun _ => False) (Kp.of_below hb) (fun _ _ h => h)
theorem HasRr.below (h : HasRr tR w base p F r) (hb : Below w.heap.size w w') : HasRr tR w' base p F r := h.keep (G := fun _ => False) (Kp.of_below hb) (fun _ _ h => h)
theorem IsRr.cell0 (h : IsRr tR w base p a n c r) : w.cell? ⟨p, 0, none⟩ = some (.slice a n c) := by rw [cell_of_row w p 0 _ tR (0, 0) h.hp]; rfl
theorem IsRr.cell1 (h : IsRr tR w base p a n c r) : w.cell? ⟨p, 1, none⟩ = some (.int .i64 r.e) := by rw [cell_of_row w p 1 _ tR (0, 0) h.hp]; rfl
theorem IsRr.free (h : IsRr tR w base p a n c r) (j : Nat) : w.frozen? ⟨p, j, none⟩ = false := frozen_of_row w p j _ tR h.hp
/-- An error is laid. -/
theorem IsRr.err (h : IsRr tR w base p a n c r) (x : Int) : IsRr tR (w.setCell ⟨p, 1, none⟩ (.int .i64 x)) base p a n c { r with e := x } where
  hp := by rw [heap_setCell_same w p 1 _ tR _ h.hp]; rfl
  rd := (Kp.setCell (F := fun k => k = p) (Kp.refl _ _) (x := ⟨p, 1, none⟩) (.inl rfl) _).rdB h.rd fun k o e _ hk => (h.ba k o e).2.2 hk
  bp := h.bp
  ba := fun k o e => by have := h.ba k o e; simpa using this
theorem cut_key {bs : List UInt8} (h : RdB w a n c bs) (k : Nat) (hk : k ≤ n) {k' o : Nat} (e : (if c = k then a else a.map fun x => x.add k) = some ⟨k', o, none⟩) : ∃ o', a = some ⟨k', o', none⟩ := by
  split at e
  · exact ⟨o, e⟩
  · have := h.le
    obtain ⟨b, o', rfl⟩ := h.adr (by omega)
    simp only [Option.map_some, addr_add] at e
    cases e
    exact ⟨o', rfl⟩
/-- Bytes in the reader's own block stay. -/
theorem IsRr.kept (h : IsRr tR w base p a n c r) {n' c' : Nat} {bs : List UInt8} (hr : RdB w a n' c' bs) (j : Nat) (v : Value) : RdB (w.setCell ⟨p, j, none⟩ v) a n' c' bs :=
  (Kp.setCell (F := fun k => k = p) (Kp.refl _ _) (x := ⟨p, j, none⟩) (.inl rfl) v).rdB hr fun k o e _ hk => (h.ba k o e).2.2 hk
theorem IsRr.cut_stp (h : IsRr tR w base p a n c r) (k : Nat) (hk : k ≤ n) (v : Value) : Stp (footR p a) (footR p (if c = k then a else a.map fun x => x.add k)) w (w.setCell ⟨p, 0, none⟩ v) :=
  ⟨(Kp.refl _ _).setCell (.inl (.inl rfl)) v, fun i hi => by
    rcases hi with hi | ⟨o, hi⟩
    · exact .inl (.inl hi)
    · obtain ⟨o', e⟩ := cut_key h.rd k hk hi
      exact .inl (.inr ⟨o', e⟩)⟩
/-- Less is left. -/
theorem IsRr.cut (h : IsRr tR w base p a n c r) (k : Nat) (hk : k ≤ n) : IsRr tR (w.setCell ⟨p, 0, none⟩ (.slice (if c = k then a else a.map fun x => x.add k) (n - k) (c - k))) base p (if c = k then a else a.map fun x => x.add k) (n - k) (c - k) { r with b := r.b.drop k } where
  hp := by rw [heap_setCell_same w p 0 _ tR _ h.hp]; rfl
  rd := (Kp.setCell (F := fun k => k = p) (Kp.refl _ _) (x := ⟨p, 0, none⟩) (.inl rfl) _).rdB (rdB_tail h.rd k hk) fun k' o e _ hk' => by
    obtain ⟨o', e'⟩ := cut_key h.rd k hk e
    exact (h.ba k' o' e').2.2 hk'
  bp := h.bp
  ba := fun k' o e => by
    obtain ⟨o', e'⟩ := cut_key h.rd k hk e
    have := h.ba k' o' e'
    simpa using this
end

theorem HasWr.base_le {tW tB : TypeId} {w : World} {base p : Nat} {F : Nat → Prop} {bs : List UInt8} (h : HasWr tW tB w base p F bs) : base ≤ w.heap.size := by
  obtain ⟨v, h, rfl⟩ := h
  have := h.lt; have := h.bp; omega
theorem HasRr.base_le {tR : TypeId} {w : World} {base p : Nat} {F : Nat → Prop} {r : Rr} (h : HasRr tR w base p F r) : base ≤ w.heap.size := by
  obtain ⟨a, n, c, h, rfl⟩ := h
  have := h.lt; have := h.bp; omega
/-- What a call leaves alone. -/
theorem HasWr.low {tW tB : TypeId} {w w' : World} {base p : Nat} {F F' : Nat → Prop} {bs : List UInt8} (h : HasWr tW tB w base p F bs) (hs : Stp F F' w w') : Below base w w' := by
  have hF := fun k hk => (h.foot k hk).1
  obtain ⟨v, h, rfl⟩ := h
  exact hs.low (by have := h.lt; have := h.bp; omega) hF
theorem HasRr.low {tR : TypeId} {w w' : World} {base p : Nat} {F F' : Nat → Prop} {r : Rr} (h : HasRr tR w base p F r) (hs : Stp F F' w w') : Below base w w' := by
  have hF := fun k hk => (h.foot k hk).1
  obtain ⟨a, n, c, h, rfl⟩ := h
  exact hs.low (by have := h.lt; have := h.bp; omega) hF
theorem bel {B C : Nat} {a b c : World} (h : Below B a b) (k : Below C b c) (hBC : B ≤ C) : Below B a c := h.trans (k.mono hBC)
end Go.NB
