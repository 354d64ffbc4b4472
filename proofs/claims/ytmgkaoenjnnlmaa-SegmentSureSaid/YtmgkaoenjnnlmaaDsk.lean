/- The disk, in plain lists: what each call does. And how a disk lies in memory. No program in sight. -/
import Derived.Test.YtmgkaoenjnnlmaaTail
import Derived.Test.YtmgkaoenjnnlmaaKp
namespace Go.NB
open Go Go.RowKit

/-- Blocks, writes that wait, calls until it stops, whether it stopped. -/
structure Dk where
  l : List (List UInt8)
  waits : List (Nat × List UInt8)
  left : Int
  down : Bool

namespace Dk
def up (D : Dk) : Int := if D.down then 20 else 0
def at_ (D : Dk) (i : Int) : Int := if D.down then 20 else if i < 0 ∨ (D.l.length : Int) ≤ i then 15 else 0
def counts (D : Dk) : Dk × Int := if D.left = 0 then ({ D with down := true }, 20) else ({ D with left := max (D.left - 1) (-1) }, 0)
def write (D : Dk) (i : Int) (b : List UInt8) : Dk × Int :=
  if D.at_ i ≠ 0 then (D, D.at_ i)
  else if b.length ≠ 64 then (D, 1)
  else if D.left = 0 then ({ D with down := true }, 20)
  else ({ D with left := max (D.left - 1) (-1), waits := D.waits ++ [(i.toNat, b)] }, 0)
/-- The block's bytes, with what waits. -/
def see (l : List UInt8) (ws : List (Nat × List UInt8)) (i : Nat) : List UInt8 := ws.foldl (fun b x => if x.1 = i then x.2 else b) l
def read (D : Dk) (i : Int) : List UInt8 × Int :=
  if D.at_ i ≠ 0 then ([], D.at_ i) else (see (D.l.getD i.toNat []) D.waits i.toNat, 0)
def lay (l : List (List UInt8)) (ws : List (Nat × List UInt8)) : List (List UInt8) := ws.foldl (fun l x => l.set x.1 x.2) l
def sync (D : Dk) : Dk × Int :=
  if D.down then (D, 20)
  else if D.left = 0 then ({ D with down := true }, 20)
  else ({ D with left := max (D.left - 1) (-1), l := lay D.l D.waits, waits := [] }, 0)
def stop (D : Dk) (after : Int) : Dk := { D with left := max after (-1) }
/-- One write that waited, with so much of it as was picked. -/
def tear (l : List (List UInt8)) (x : Nat × List UInt8) (n : Nat) : List (List UInt8) := l.set x.1 (x.2.take n ++ (l.getD x.1 []).drop n)
def tears (l : List (List UInt8)) : List (Nat × List UInt8) → List UInt8 → List (List UInt8)
  | x :: ws, c :: pick => tears (tear l x (c.toNat % 65)) ws pick
  | _, _ => l
def crash (D : Dk) (pick : List UInt8) : Dk := { l := tears D.l D.waits pick, waits := [], left := -1, down := false }
def fresh (n : Nat) : Dk := { l := List.replicate n (List.replicate 64 0), waits := [], left := -1, down := false }
end Dk

theorem at_zero {D : Dk} {i : Int} (h : D.at_ i = 0) : 0 ≤ i ∧ i < D.l.length := by
  unfold Dk.at_ at h
  split at h
  · omega
  · split at h
    · omega
    · omega

/-! ### How a disk lies in memory -/

def flatL (l : List (List UInt8)) : List Value := l.flatten.map u8v
def flatW (ws : List (Nat × List UInt8)) : List Value := ws.flatMap fun x => .int .i64 (x.1 : Int) :: x.2.map u8v

/-! ### Rows of like length, one behind the other -/
section
variable {α : Type} {s : Nat}
theorem flat_len (R : List (List α)) (h : ∀ r ∈ R, r.length = s) : R.flatten.length = R.length * s := by
  induction R with
  | nil => simp
  | cons r R ih =>
    rw [List.flatten_cons, List.length_append, ih (fun x hx => h x (List.mem_cons_of_mem _ hx)), h r List.mem_cons_self, List.length_cons, Nat.add_mul, Nat.one_mul, Nat.add_comm]
theorem flat_take (R : List (List α)) (h : ∀ r ∈ R, r.length = s) (i : Nat) (hi : i ≤ R.length) : R.flatten.take (i * s) = (R.take i).flatten := by
  have e : R.flatten = (R.take i).flatten ++ (R.drop i).flatten := by rw [← List.flatten_append, List.take_append_drop]
  have hl : (R.take i).flatten.length = i * s := by
    rw [flat_len _ (fun r hr => h r (List.mem_of_mem_take hr)), List.length_take, Nat.min_eq_left hi]
  rw [e, ← hl]
  exact List.take_left
theorem flat_drop (R : List (List α)) (h : ∀ r ∈ R, r.length = s) (i : Nat) (hi : i ≤ R.length) : R.flatten.drop (i * s) = (R.drop i).flatten := by
  have e : R.flatten = (R.take i).flatten ++ (R.drop i).flatten := by rw [← List.flatten_append, List.take_append_drop]
  have hl : (R.take i).flatten.length = i * s := by
    rw [flat_len _ (fun r hr => h r (List.mem_of_mem_take hr)), List.length_take, Nat.min_eq_left hi]
  rw [e, ← hl]
  exact List.drop_left
theorem flat_at (R : List (List α)) (h : ∀ r ∈ R, r.length = s) (i : Nat) (hi : i < R.length) : (R.flatten.drop (i * s)).take s = R[i] := by
  rw [flat_drop R h i (by omega), List.drop_eq_getElem_cons hi, List.flatten_cons, ← h R[i] (List.getElem_mem hi)]
  exact List.take_left
theorem flat_set (R : List (List α)) (h : ∀ r ∈ R, r.length = s) (i : Nat) (hi : i < R.length) (b : List α) (hb : b.length = s) :
    R.flatten.take (i * s) ++ b ++ R.flatten.drop (i * s + b.length) = (R.set i b).flatten := by
  have e : i * s + b.length = (i + 1) * s := by rw [hb, Nat.add_mul, Nat.one_mul]
  rw [e, flat_take R h i (by omega), flat_drop R h (i + 1) (by omega), List.set_eq_take_append_cons_drop, if_pos hi, List.flatten_append, List.flatten_cons, List.append_assoc]
end

theorem flatL_rows (l : List (List UInt8)) : flatL l = (l.map (·.map u8v)).flatten := by simp [flatL, List.map_flatten]
theorem flatW_rows (ws : List (Nat × List UInt8)) : flatW ws = (ws.map fun x => .int .i64 (x.1 : Int) :: x.2.map u8v).flatten := by simp [flatW, List.flatMap_def]
theorem rows_l {l : List (List UInt8)} (h : ∀ b ∈ l, b.length = 64) : ∀ r ∈ l.map (·.map u8v), r.length = 64 := by
  intro r hr
  obtain ⟨b, hb, rfl⟩ := List.mem_map.1 hr
  simpa using h b hb
theorem rows_w {ws : List (Nat × List UInt8)} {n : Nat} (h : ∀ x ∈ ws, x.2.length = 64 ∧ x.1 < n) : ∀ r ∈ ws.map (fun x => Value.int .i64 (x.1 : Int) :: x.2.map u8v), r.length = 65 := by
  intro r hr
  obtain ⟨x, hx, rfl⟩ := List.mem_map.1 hr
  simp [(h x hx).1]
theorem flatL_len {l : List (List UInt8)} (h : ∀ b ∈ l, b.length = 64) : (flatL l).length = l.length * 64 := by
  rw [flatL_rows, flat_len _ (rows_l h)]; simp
/-- A block's bytes are put anew. -/
theorem flatL_set {l : List (List UInt8)} (h : ∀ b ∈ l, b.length = 64) (i : Nat) (hi : i < l.length) (b : List UInt8) (hb : b.length = 64) :
    NB.splice (flatL l).toArray (i * 64) (b.map u8v) = (flatL (l.set i b)).toArray := by
  have := flat_set (l.map (·.map u8v)) (rows_l h) i (by simpa using hi) (b.map u8v) (by simpa using hb)
  simp only [NB.splice, flatL_rows, this, ← List.map_set]
theorem flatL_at {l : List (List UInt8)} (h : ∀ b ∈ l, b.length = 64) (i : Nat) (hi : i < l.length) :
    (flatL l).toArray.extract (i * 64) (i * 64 + 64) = ((l.getD i []).map u8v).toArray := by
  have := flat_at (l.map (·.map u8v)) (rows_l h) i (by simpa using hi)
  rw [← flatL_rows] at this
  simp only [List.getElem_map] at this
  simp only [List.extract_toArray, List.extract_eq_take_drop, Nat.add_sub_cancel_left, this]
  simp [List.getD, hi]

/-- A block's first bytes are put anew. -/
theorem flatL_tear {l : List (List UInt8)} (h : ∀ b ∈ l, b.length = 64) (i : Nat) (hi : i < l.length) (cs : List UInt8) (hc : cs.length ≤ 64) :
    (_root_.Go.splice (flatL l) (i * 64) (cs.map u8v)).toArray = (flatL (l.set i (cs ++ (l.getD i []).drop cs.length))).toArray := by
  have hg : l.getD i [] = l[i] := by rw [List.getD, List.getElem?_eq_getElem hi]; rfl
  have h64 : l[i].length = 64 := h _ (List.getElem_mem hi)
  rw [hg]
  have hb : (cs ++ l[i].drop cs.length).length = 64 := by
    rw [List.length_append, List.length_drop, h64]; omega
  rw [← flatL_set h i hi _ hb]
  have hat := flat_at (l.map (·.map u8v)) (rows_l h) i (by simpa using hi)
  rw [← flatL_rows] at hat
  simp only [List.getElem_map] at hat
  have e2 : i * 64 + ((cs ++ l[i].drop cs.length).map u8v).length = i * 64 + cs.length + (64 - cs.length) := by
    rw [List.length_map, hb]; omega
  have e3 : ((l[i].drop cs.length).map u8v) = ((flatL l).drop (i * 64 + cs.length)).take (64 - cs.length) := by
    rw [List.map_drop, ← hat, List.drop_take, List.drop_drop]
  simp only [NB.splice, _root_.Go.splice, e2]
  rw [List.map_append, e3, List.length_map]
  congr 1
  rw [List.append_assoc, List.append_assoc]
  congr 2
  have e4 : (flatL l).drop (i * 64 + cs.length + (64 - cs.length)) = ((flatL l).drop (i * 64 + cs.length)).drop (64 - cs.length) := by rw [List.drop_drop]
  rw [e4]
  exact (List.take_append_drop _ _).symm

theorem tears_succ (ws : List (Nat × List UInt8)) : ∀ (l : List (List UInt8)) (pick : List UInt8) (k : Nat) (x : Nat × List UInt8), ws[k]? = some x →
    Dk.tears l (ws.take (k + 1)) pick = if k < pick.length then Dk.tear (Dk.tears l (ws.take k) pick) x ((pick.getD k 0).toNat % 65) else Dk.tears l (ws.take k) pick := by
  induction ws with
  | nil => intro l pick k x h; cases h
  | cons y ws ih =>
    intro l pick k x h
    cases pick with
    | nil => simp [Dk.tears]
    | cons c pick =>
      cases k with
      | zero =>
        obtain rfl : y = x := by simpa using h
        simp [Dk.tears]
      | succ k =>
        have := ih (Dk.tear l y (c.toNat % 65)) pick k x (by simpa using h)
        simpa [Dk.tears] using this
theorem tears_len : ∀ (ws : List (Nat × List UInt8)) (l : List (List UInt8)) (pick : List UInt8), (Dk.tears l ws pick).length = l.length
  | [], l, pick => rfl
  | x :: ws, l, [] => rfl
  | x :: ws, l, c :: pick => by simp [Dk.tears, tears_len ws, Dk.tear]

/-- 'tD', 'tB', 'tW': the numbers of the types Disk, block, write. -/
structure IsDisk (tD tB tW : TypeId) (w : World) (base p bl : Nat) (vW : Value) (D : Dk) : Prop where
  hp : w.heap[p]? = some (.cells #[.slice (some ⟨bl, 0, none⟩) D.l.length D.l.length, vW, .int .i64 D.left, .bool D.down] tD (0, 0))
  hl : w.heap[bl]? = some (.cells (flatL D.l).toArray tB (0, 0))
  hw : w.ownsRow base tW 65 vW D.waits.length (flatW D.waits)
  l64 : ∀ b ∈ D.l, b.length = 64
  w64 : ∀ x ∈ D.waits, x.2.length = 64 ∧ x.1 < D.l.length
  left : -1 ≤ D.left ∧ D.left ≤ 9223372036854775807
  n : D.l.length ≤ 65536
  bp : base ≤ p
  bbl : base ≤ bl
  ne : p ≠ bl
  neW : ∀ k, vW.ownBlock = some k → k ≠ p ∧ k ≠ bl

/-- The blocks that a disk lies in. -/
def footD (p bl : Nat) (vW : Value) (k : Nat) : Prop := k = p ∨ k = bl ∨ vW.ownBlock = some k

section
variable {tD tB tW : TypeId} {w w' : World} {base p bl : Nat} {vW : Value} {D : Dk}
theorem IsDisk.cell (h : IsDisk tD tB tW w base p bl vW D) (j : Nat) (v : Value) (hv : (#[.slice (some ⟨bl, 0, none⟩) D.l.length D.l.length, vW, .int .i64 D.left, .bool D.down] : Array Value)[j]? = some v) : w.cell? ⟨p, j, none⟩ = some v := by
  rw [cell_of_row w p j _ tD (0, 0) h.hp]; exact hv
theorem IsDisk.free (h : IsDisk tD tB tW w base p bl vW D) (j : Nat) : w.frozen? ⟨p, j, none⟩ = false := frozen_of_row w p j _ tD h.hp
theorem IsDisk.lt (h : IsDisk tD tB tW w base p bl vW D) : p < w.heap.size ∧ bl < w.heap.size := ⟨(Array.getElem?_eq_some_iff.1 h.hp).1, (Array.getElem?_eq_some_iff.1 h.hl).1⟩
theorem IsDisk.foot_lt (h : IsDisk tD tB tW w base p bl vW D) (k : Nat) (hk : footD p bl vW k) : base ≤ k ∧ k < w.heap.size := by
  rcases hk with rfl | rfl | hk
  · exact ⟨h.bp, h.lt.1⟩
  · exact ⟨h.bbl, h.lt.2⟩
  · exact h.hw.lt k hk
/-- It lies as it did where its blocks have not turned. -/
theorem IsDisk.keep {F : Nat → Prop} (h : IsDisk tD tB tW w base p bl vW D) (hk : Kp F w w') (hF : ∀ k, footD p bl vW k → ¬ F k) : IsDisk tD tB tW w' base p bl vW D :=
  { h with
    hp := (hk.block p h.lt.1 (hF p (.inl rfl))).trans h.hp
    hl := (hk.block bl h.lt.2 (hF bl (.inr (.inl rfl)))).trans h.hl
    hw := hk.own h.hw fun k e => hF k (.inr (.inr e)) }
theorem IsDisk.below (h : IsDisk tD tB tW w base p bl vW D) (hb : Below w.heap.size w w') : IsDisk tD tB tW w' base p bl vW D :=
  h.keep (F := fun _ => False) (Kp.of_below hb) (fun _ _ h => h)
/-- One of its fields is stored anew. -/
theorem IsDisk.field (h : IsDisk tD tB tW w base p bl vW D) (j : Nat) (v : Value) (left : Int) (down : Bool) (hl : -1 ≤ left ∧ left ≤ 9223372036854775807)
    (hv : (#[.slice (some ⟨bl, 0, none⟩) D.l.length D.l.length, vW, .int .i64 D.left, .bool D.down] : Array Value).setIfInBounds j v = #[.slice (some ⟨bl, 0, none⟩) D.l.length D.l.length, vW, .int .i64 left, .bool down]) :
    IsDisk tD tB tW (w.setCell ⟨p, j, none⟩ v) base p bl vW { D with left := left, down := down } where
  hp := by rw [heap_setCell_same w p j _ tD v h.hp, hv]
  hl := by rw [heap_setCell_other w _ _ _ (Ne.symm h.ne)]; exact h.hl
  hw := (Kp.setCell (F := fun k => k = p) (Kp.refl _ _) (x := ⟨p, j, none⟩) (.inl rfl) v).own h.hw fun k e hk => (h.neW k e).1 hk
  l64 := h.l64
  w64 := h.w64
  left := hl
  n := h.n
  bp := h.bp
  bbl := h.bbl
  ne := h.ne
  neW := h.neW
/-- One more write waits. -/
theorem IsDisk.wrote (h : IsDisk tD tB tW w base p bl vW D) {v' : Value} (hg : w.grownBy w' vW.ownBlock) (i : Int) (b : List UInt8) (hi : 0 ≤ i ∧ i < D.l.length) (hb : b.length = 64)
    (ho : w'.ownsRow base tW 65 v' (D.waits.length + 1) (flatW D.waits ++ (.int .i64 i :: b.map u8v))) (hv : ∀ k, v'.ownBlock = some k → vW.ownBlock = some k ∨ w.heap.size ≤ k) :
    IsDisk tD tB tW (w'.setCell ⟨p, 1, none⟩ v') base p bl v' { D with waits := D.waits ++ [(i.toNat, b)] } where
  hp := by
    have hp' := (hg.block p h.lt.1 (fun e => (h.neW p e.symm).1 rfl)).trans h.hp
    rw [heap_setCell_same w' p 1 _ tD v' hp']; rfl
  hl := by rw [heap_setCell_other w' _ _ _ (Ne.symm h.ne)]; exact (hg.block bl h.lt.2 (fun e => (h.neW bl e.symm).2 rfl)).trans h.hl
  hw := by
    have e1 : flatW (D.waits ++ [(i.toNat, b)]) = flatW D.waits ++ (.int .i64 i :: b.map u8v) := by
      simp [flatW, List.flatMap_append, Int.toNat_of_nonneg hi.1]
    have e2 : (D.waits ++ [(i.toNat, b)]).length = D.waits.length + 1 := by simp
    simp only [e1, e2]
    exact (Kp.setCell (F := fun k => k = p) (Kp.refl _ _) (x := ⟨p, 1, none⟩) (.inl rfl) v').own ho fun k e hk => by
      have := hv k e
      subst hk
      rcases this with h1 | h1
      · exact (h.neW _ h1).1 rfl
      · exact absurd h.lt.1 (by omega)
  l64 := h.l64
  w64 := by
    intro x hx
    rcases List.mem_append.1 hx with hx | hx
    · exact h.w64 x hx
    · obtain rfl : x = (i.toNat, b) := by simpa using hx
      exact ⟨hb, by simp only; omega⟩
  left := h.left
  n := h.n
  bp := h.bp
  bbl := h.bbl
  ne := h.ne
  neW := fun k e => by
    rcases hv k e with h1 | h1
    · exact h.neW k h1
    · exact ⟨fun e2 => by have := h.lt.1; omega, fun e2 => by have := h.lt.2; omega⟩
/-- A block's bytes are laid. -/
theorem IsDisk.laid (h : IsDisk tD tB tW w base p bl vW D) (i : Nat) (b : List UInt8) (hb : b.length = 64) (hg : w.grownBy w' (some bl)) (hr : w'.heap[bl]? = some (.cells (flatL (D.l.set i b)).toArray tB (0, 0))) :
    IsDisk tD tB tW w' base p bl vW { D with l := D.l.set i b } where
  hp := by simp only [List.length_set]; exact (hg.block p h.lt.1 (fun e => h.ne (Option.some.inj e))).trans h.hp
  hl := hr
  hw := (Kp.grown (F := fun k => k = bl) (Kp.refl _ _) hg (fun k e => .inl (by cases e; rfl))).own h.hw fun k e hk => (h.neW k e).2 hk
  l64 := fun x hx => by
    rcases List.mem_or_eq_of_mem_set hx with h1 | h1
    · exact h.l64 x h1
    · rw [h1]; exact hb
  w64 := fun x hx => by simp only [List.length_set]; exact h.w64 x hx
  left := h.left
  n := by simp only [List.length_set]; exact h.n
  bp := h.bp
  bbl := h.bbl
  ne := h.ne
  neW := h.neW
/-- A write that waits, where it lies. -/
theorem IsDisk.wait_at (h : IsDisk tD tB tW w base p bl vW D) (k : Nat) (hk : k < D.waits.length) :
    ∃ (g cap : Nat) (cur : Array Value) (i : Nat) (b : List UInt8), vW = .slice (some ⟨g, 0, none⟩) D.waits.length cap ∧ D.waits.length ≤ cap ∧ cap ≤ maxLen ∧ w.heap[g]? = some (.cells cur tW (0, 0)) ∧ k * 65 + 65 ≤ cur.size ∧
      cur.extract (k * 65) (k * 65 + 65) = (.int .i64 (i : Int) :: b.map u8v : List Value).toArray ∧ D.waits[k]? = some (i, b) ∧ b.length = 64 ∧ i < D.l.length := by
  rcases h.hw.2 with ⟨_, h0⟩ | ⟨g, cap, cur, hv, hb, hg, hle, hm, hs, ht⟩
  · omega
  · have hx : D.waits[k]? = some D.waits[k] := List.getElem?_eq_getElem hk
    refine ⟨g, cap, cur, D.waits[k].1, D.waits[k].2, hv, hle, hm, hg, by omega, ?_, hx, (h.w64 _ (List.getElem_mem hk)).1, (h.w64 _ (List.getElem_mem hk)).2⟩
    have h1 := flat_at (D.waits.map fun x => (Value.int .i64 (x.1 : Int) :: x.2.map u8v)) (rows_w h.w64) k (by simpa using hk)
    rw [← flatW_rows, ← ht, List.drop_take, List.take_take] at h1
    rw [show min 65 (D.waits.length * 65 - k * 65) = 65 by omega] at h1
    simp only [List.getElem_map] at h1
    rw [← h1]
    apply Array.ext'
    rw [Array.toList_extract, List.extract_eq_take_drop, Nat.add_sub_cancel_left]
/-- What waits is sure now. -/
theorem IsDisk.sure (h : IsDisk tD tB tW w base p bl vW D) (j : Nat) (hj : j = 1) : IsDisk tD tB tW (w.setCell ⟨p, j, none⟩ (.slice none 0 0)) base p bl (.slice none 0 0) { D with waits := [] } where
  hp := by subst hj; rw [heap_setCell_same w p 1 _ tD _ h.hp]; rfl
  hl := by rw [heap_setCell_other w _ _ _ (Ne.symm h.ne)]; exact h.hl
  hw := World.ownsRow_nil _ _ _ _
  l64 := h.l64
  w64 := fun x hx => nomatch hx
  left := h.left
  n := h.n
  bp := h.bp
  bbl := h.bbl
  ne := h.ne
  neW := fun k e => nomatch e
/-- It begins anew. -/
theorem IsDisk.anew (h : IsDisk tD tB tW w base p bl vW D) :
    IsDisk tD tB tW (((w.setCell ⟨p, 1, none⟩ (.slice none 0 0)).setCell ⟨p, 2, none⟩ (.int .i64 (-1))).setCell ⟨p, 3, none⟩ (.bool false)) base p bl (.slice none 0 0) { l := D.l, waits := [], left := -1, down := false } :=
  ((h.sure 1 rfl).field 2 (.int .i64 (-1)) (-1) D.down (by omega) rfl).field 3 (.bool false) (-1) false (by simp) rfl
theorem IsDisk.kp_field (j : Nat) (v : Value) : Kp (footD p bl vW) w (w.setCell ⟨p, j, none⟩ v) := (Kp.refl _ _).setCell (.inl (.inl rfl)) v
end

/-- Bytes that lie outside of a disk. -/
structure Out (w : World) (p bl : Nat) (vW : Value) (a : Option Addr) (n c : Nat) (bs : List UInt8) : Prop where
  rd : RdB w a n c bs
  nf : ∀ k o, a = some ⟨k, o, none⟩ → bs ≠ [] → ¬ footD p bl vW k
section
variable {tD tB tW : TypeId} {w w' w2 : World} {base p bl : Nat} {vW vW' : Value} {D : Dk} {a : Option Addr} {n c : Nat} {bs : List UInt8}
theorem Out.step (h : Out w p bl vW a n c bs) (hk : Kp (footD p bl vW) w w') (hv : ∀ k, vW'.ownBlock = some k → vW.ownBlock = some k ∨ w.heap.size ≤ k) : Out w' p bl vW' a n c bs :=
  ⟨hk.rdB h.rd h.nf, fun k o e hn hf => by
    rcases hf with hf | hf | hf
    · exact h.nf k o e hn (.inl hf)
    · exact h.nf k o e hn (.inr (.inl hf))
    · rcases hv k hf with hf | hf
      · exact h.nf k o e hn (.inr (.inr hf))
      · have := h.rd.lt k o e (by simpa using hn)
        omega⟩
theorem Out.below (h : Out w p bl vW a n c bs) (hb : Below w.heap.size w w') : Out w' p bl vW a n c bs := ⟨h.rd.below hb, h.nf⟩
theorem Out.alloc (h : Out w p bl vW a n c bs) (o : Obj) : Out (w.alloc o) p bl vW a n c bs := h.below ((Below.refl _ _).alloc (Nat.le_refl _) o)
/-- What lies below a disk. -/
theorem Out.under (hd : IsDisk tD tB tW w base p bl vW D) (r : RdB w a n c bs) (hl : ∀ k o, a = some ⟨k, o, none⟩ → bs ≠ [] → k < base) : Out w p bl vW a n c bs :=
  ⟨r, fun k o e hn hf => by have := (hd.foot_lt k hf).1; have := hl k o e hn; omega⟩
/-- What is made behind a disk. -/
theorem Out.fresh {t : TypeId} (hd : IsDisk tD tB tW w base p bl vW D) {b2 : Nat} (ho : OwnB w' b2 t (.slice a bs.length c) bs) (hb : w.heap.size ≤ b2) : Out w' p bl vW a bs.length c bs := by
  obtain ⟨a1, c1, e1, hr, hl, _⟩ := rd_of_own ho
  cases e1
  exact ⟨hr, fun k o e _ hf => by have := (hd.foot_lt k hf).2; have := (hl k o e).1; omega⟩
end
end Go.NB
