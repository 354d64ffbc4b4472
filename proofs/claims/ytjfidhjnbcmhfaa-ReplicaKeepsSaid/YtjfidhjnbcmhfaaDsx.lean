/- The disk, in plain lists: what each call does. And how a disk lies in memory. No program in sight. The disk's small calls, walked. The disk's Write, walked. The disk's Sync, walked. The disk's Read, walked. The disk's Crash, walked. The disk's New, walked. The disk's calls once more: what it holds as one set of blocks. -/
import Derived.Test.YtjfidhjnbcmhfaaTail
import Derived.Test.YtjfidhjnbcmhfaaKp
import Derived.Test.YtjfidhjnbcmhfaaRows
import Derived.Test.YtjfidhjnbcmhfaaSlc
import Derived.Deep.RegionLaw
namespace Go.NB
open Go Go.RowKit

/-- Blocks, writes that wait, calls until it stops, whether it stopped. -/
structure Dk where
  l : List (List UInt8)
  waits : List (Nat × List UInt8)
  left : Int
  down : Bool

namespace Dk
def up (D : Dk) : Int := if D.down then 20 else 0
def at_ (D : Dk) (i : Int) : Int := if D.down then 20 else if i < 0 ∨ (D.l.length : Int) ≤ i then 15 else 0
def counts (D : Dk) : Dk × Int := if D.left = 0 then ({ D with down := true }, 20) else ({ D with left := max (D.left - 1) (-1) }, 0)
def write (D : Dk) (i : Int) (b : List UInt8) : Dk × Int :=
  if D.at_ i ≠ 0 then (D, D.at_ i)
  else if b.length ≠ 64 then (D, 1)
  else if D.left = 0 then ({ D with down := true }, 20)
  else ({ D with left := max (D.left - 1) (-1), waits := D.waits ++ [(i.toNat, b)] }, 0)
/-- The block's bytes, with what waits. -/
def see (l : List UInt8) (ws : List (Nat × List UInt8)) (i : Nat) : List UInt8 := ws.foldl (fun b x => if x.1 = i then x.2 else b) l
def read (D : Dk) (i : Int) : List UInt8 × Int :=
  if D.at_ i ≠ 0 then ([], D.at_ i) else (see (D.l.getD i.toNat []) D.waits i.toNat, 0)
def lay (l : List (List UInt8)) (ws : List (Nat × List UInt8)) : List (List UInt8) := ws.foldl (fun l x => l.set x.1 x.2) l
def sync (D : Dk) : Dk × Int :=
  if D.down then (D, 20)
  else if D.left = 0 then ({ D with down := true }, 20)
  else ({ D with left := max (D.left - 1) (-1), l := lay D.l D.waits, waits := [] }, 0)
def stop (D : Dk) (after : Int) : Dk := { D with left := max after (-1) }
/-- One write that waited, with so much of it as was picked. -/
def tear (l : List (List UInt8)) (x : Nat × List UInt8) (n : Nat) : List (List UInt8) := l.set x.1 (x.2.take n ++ (l.getD x.1 []).drop n)
def tears (l : List (List UInt8)) : List (Nat × List UInt8) → List UInt8 → List (List UInt8)
  | x :: ws, c :: pick => tears (tear l x (c.toNat % 65)) ws pick
  | _, _ => l
def crash (D : Dk) (pick : List UInt8) : Dk := { l := tears D.l D.waits pick, waits := [], left := -1, down := false }
def fresh (n : Nat) : Dk := { l := List.replicate n (List.replicate 64 0), waits := [], left := -1, down := false }
end Dk

theorem at_zero {D : Dk} {i : Int} (h : D.at_ i = 0) : 0 ≤ i ∧ i < D.l.length := by
  unfold Dk.at_ at h
  split at h
  · omega
  · split at h
    · omega
    · omega

/-! ### How a disk lies in memory -/

def flatL (l : List (List UInt8)) : List Value := l.flatten.map u8v
def flatW (ws : List (Nat × List UInt8)) : List Value := ws.flatMap fun x => .int .i64 (x.1 : Int) :: x.2.map u8v

/-! ### Rows of like length, one behind the other -/
section
variable {α : Type} {s : Nat}
theorem flat_len (R : List (List α)) (h : ∀ r ∈ R, r.length = s) : R.flatten.length = R.length * s := by
  induction R with
  | nil => simp
  | cons r R ih =>
    rw [List.flatten_cons, List.length_append, ih (fun x hx => h x (List.mem_cons_of_mem _ hx)), h r List.mem_cons_self, List.length_cons, Nat.add_mul, Nat.one_mul, Nat.add_comm]
theorem flat_take (R : List (List α)) (h : ∀ r ∈ R, r.length = s) (i : Nat) (hi : i ≤ R.length) : R.flatten.take (i * s) = (R.take i).flatten := by
  have e : R.flatten = (R.take i).flatten ++ (R.drop i).flatten := by rw [← List.flatten_append, List.take_append_drop]
  have hl : (R.take i).flatten.length = i * s := by
    rw [flat_len _ (fun r hr => h r (List.mem_of_mem_take hr)), List.length_take, Nat.min_eq_left hi]
  rw [e, ← hl]
  exact List.take_left
theorem flat_drop (R : List (List α)) (h : ∀ r ∈ R, r.length = s) (i : Nat) (hi : i ≤ R.length) : R.flatten.drop (i * s) = (R.drop i).flatten := by
  have e : R.flatten = (R.take i).flatten ++ (R.drop i).flatten := by rw [← List.flatten_append, List.take_append_drop]
  have hl : (R.take i).flatten.length = i * s := by
    rw [flat_len _ (fun r hr => h r (List.mem_of_mem_take hr)), List.length_take, Nat.min_eq_left hi]
  rw [e, ← hl]
  exact List.drop_left
theorem flat_at (R : List (List α)) (h : ∀ r ∈ R, r.length = s) (i : Nat) (hi : i < R.length) : (R.flatten.drop (i * s)).take s = R[i] := by
  rw [flat_drop R h i (by omega), List.drop_eq_getElem_cons hi, List.flatten_cons, ← h R[i] (List.getElem_mem hi)]
  exact List.take_left
theorem flat_set (R : List (List α)) (h : ∀ r ∈ R, r.length = s) (i : Nat) (hi : i < R.length) (b : List α) (hb : b.length = s) :
    R.flatten.take (i * s) ++ b ++ R.flatten.drop (i * s + b.length) = (R.set i b).flatten := by
  have e : i * s + b.length = (i + 1) * s := by rw [hb, Nat.add_mul, Nat.one_mul]
  rw [e, flat_take R h i (by omega), flat_drop R h (i + 1) (by omega), List.set_eq_take_append_cons_drop, if_pos hi, List.flatten_append, List.flatten_cons, List.append_assoc]
end

theorem flatL_rows (l : List (List UInt8)) : flatL l = (l.map (·.map u8v)).flatten := by simp [flatL, List.map_flatten]
theorem flatW_rows (ws : List (Nat × List UInt8)) : flatW ws = (ws.map fun x => .int .i64 (x.1 : Int) :: x.2.map u8v).flatten := by simp [flatW, List.flatMap_def]
theorem rows_l {l : List (List UInt8)} (h : ∀ b ∈ l, b.length = 64) : ∀ r ∈ l.map (·.map u8v), r.length = 64 := by
  intro r hr
  obtain ⟨b, hb, rfl⟩ := List.mem_map.1 hr
  simpa using h b hb
theorem rows_w {ws : List (Nat × List UInt8)} {n : Nat} (h : ∀ x ∈ ws, x.2.length = 64 ∧ x.1 < n) : ∀ r ∈ ws.map (fun x => Value.int .i64 (x.1 : Int) :: x.2.map u8v), r.length = 65 := by
  intro r hr
  obtain ⟨x, hx, rfl⟩ := List.mem_map.1 hr
  simp [(h x hx).1]
theorem flatL_len {l : List (List UInt8)} (h : ∀ b ∈ l, b.length = 64) : (flatL l).length = l.length * 64 := by
  rw [flatL_rows, flat_len _ (rows_l h)]; simp
/-- A block's bytes are put anew. -/
theorem flatL_set {l : List (List UInt8)} (h : ∀ b ∈ l, b.length = 64) (i : Nat) (hi : i < l.length) (b : List UInt8) (hb : b.length = 64) :
    NB.splice (flatL l).toArray (i * 64) (b.map u8v) = (flatL (l.set i b)).toArray := by
  have := flat_set (l.map (·.map u8v)) (rows_l h) i (by simpa using hi) (b.map u8v) (by simpa using hb)
  simp only [NB.splice, flatL_rows, this, ← List.map_set]
theorem flatL_at {l : List (List UInt8)} (h : ∀ b ∈ l, b.length = 64) (i : Nat) (hi : i < l.length) :
    (flatL l).toArray.extract (i * 64) (i * 64 + 64) = ((l.getD i []).map u8v).toArray := by
  have := flat_at (l.map (·.map u8v)) (rows_l h) i (by simpa using hi)
  rw [← flatL_rows] at this
  simp only [List.getElem_map] at this
  simp only [List.extract_toArray, List.extract_eq_take_drop, Nat.add_sub_cancel_left, this]
  simp [List.getD, hi]

/-- A block's first bytes are put anew. -/
theorem flatL_tear {l : List (List UInt8)} (h : ∀ b ∈ l, b.length = 64) (i : Nat) (hi : i < l.length) (cs : List UInt8) (hc : cs.length ≤ 64) :
    (_root_.Go.splice (flatL l) (i * 64) (cs.map u8v)).toArray = (flatL (l.set i (cs ++ (l.getD i []).drop cs.length))).toArray := by
  have hg : l.getD i [] = l[i] := by rw [List.getD, List.getElem?_eq_getElem hi]; rfl
  have h64 : l[i].length = 64 := h _ (List.getElem_mem hi)
  rw [hg]
  have hb : (cs ++ l[i].drop cs.length).length = 64 := by
    rw [List.length_append, List.length_drop, h64]; omega
  rw [← flatL_set h i hi _ hb]
  have hat := flat_at (l.map (·.map u8v)) (rows_l h) i (by simpa using hi)
  rw [← flatL_rows] at hat
  simp only [List.getElem_map] at hat
  have e2 : i * 64 + ((cs ++ l[i].drop cs.length).map u8v).length = i * 64 + cs.length + (64 - cs.length) := by
    rw [List.length_map, hb]; omega
  have e3 : ((l[i].drop cs.length).map u8v) = ((flatL l).drop (i * 64 + cs.length)).take (64 - cs.length) := by
    rw [List.map_drop, ← hat, List.drop_take, List.drop_drop]
  simp only [NB.splice, _root_.Go.splice, e2]
  rw [List.map_append, e3, List.length_map]
  congr 1
  rw [List.append_assoc, List.append_assoc]
  congr 2
  have e4 : (flatL l).drop (i * 64 + cs.length + (64 - cs.length)) = ((flatL l).drop (i * 64 + cs.length)).drop (64 - cs.length) := by rw [List.drop_drop]
  rw [e4]
  exact (List.take_append_drop _ _).symm

theorem tears_succ (ws : List (Nat × List UInt8)) : ∀ (l : List (List UInt8)) (pick : List UInt8) (k : Nat) (x : Nat × List UInt8), ws[k]? = some x →
    Dk.tears l (ws.take (k + 1)) pick = if k < pick.length then Dk.tear (Dk.tears l (ws.take k) pick) x ((pick.getD k 0).toNat % 65) else Dk.tears l (ws.take k) pick := by
  induction ws with
  | nil => intro l pick k x h; cases h
  | cons y ws ih =>
    intro l pick k x h
    cases pick with
    | nil => simp [Dk.tears]
    | cons c pick =>
      cases k with
      | zero =>
        obtain rfl : y = x := by simpa using h
        simp [Dk.tears]
      | succ k =>
        have := ih (Dk.tear l y (c.toNat % 65)) pick k x (by simpa using h)
        simpa [Dk.tears] using this
theorem tears_len : ∀ (ws : List (Nat × List UInt8)) (l : List (List UInt8)) (pick : List UInt8), (Dk.tears l ws pick).length = l.length
  | [], l, pick => rfl
  | x :: ws, l, [] => rfl
  | x :: ws, l, c :: pick => by simp [Dk.tears, tears_len ws, Dk.tear]

/-- 'tD', 'tB', 'tW': the numbers of the types Disk, block, write. -/
structure IsDisk (tD tB tW : TypeId) (w : World) (base p bl : Nat) (vW : Value) (D : Dk) : Prop where
  hp : w.heap[p]? = some (.cells #[.slice (some ⟨bl, 0, none⟩) D.l.length D.l.length, vW, .int .i64 D.left, .bool D.down] tD (0, 0))
  hl : w.heap[bl]? = some (.cells (flatL D.l).toArray tB (0, 0))
  hw : w.ownsRow base tW 65 vW D.waits.length (flatW D.waits)
  l64 : ∀ b ∈ D.l, b.length = 64
  w64 : ∀ x ∈ D.waits, x.2.length = 64 ∧ x.1 < D.l.length
  left : -1 ≤ D.left ∧ D.left ≤ 9223372036854775807
  n : D.l.length ≤ 65536
  bp : base ≤ p
  bbl : base ≤ bl
  ne : p ≠ bl
  neW : ∀ k, vW.ownBlock = some k → k ≠ p ∧ k ≠ bl

/-- The blocks that a disk lies in. -/
def footD (p bl : Nat) (vW : Value) (k : Nat) : Prop := k = p ∨ k = bl ∨ vW.ownBlock = some k

section
variable {tD tB tW : TypeId} {w w' : World} {base p bl : Nat} {vW : Value} {D : Dk}
theorem IsDisk.cell (h : IsDisk tD tB tW w base p bl vW D) (j : Nat) (v : Value) (hv : (#[.slice (some ⟨bl, 0, none⟩) D.l.length D.l.length, vW, .int .i64 D.left, .bool D.down] : Array Value)[j]? = some v) : w.cell? ⟨p, j, none⟩ = some v := by
  rw [cell_of_row w p j _ tD (0, 0) h.hp]; exact hv
theorem IsDisk.free (h : IsDisk tD tB tW w base p bl vW D) (j : Nat) : w.frozen? ⟨p, j, none⟩ = false := frozen_of_row w p j _ tD h.hp
theorem IsDisk.lt (h : IsDisk tD tB tW w base p bl vW D) : p < w.heap.size ∧ bl < w.heap.size := ⟨(Array.getElem?_eq_some_iff.1 h.hp).1, (Array.getElem?_eq_some_iff.1 h.hl).1⟩
theorem IsDisk.foot_lt (h : IsDisk tD tB tW w base p bl vW D) (k : Nat) (hk : footD p bl vW k) : base ≤ k ∧ k < w.heap.size := by
  rcases hk with rfl | rfl | hk
  · exact ⟨h.bp, h.lt.1⟩
  · exact ⟨h.bbl, h.lt.2⟩
  · exact h.hw.lt k hk
/-- It lies as it did where its blocks have not turned. -/
theorem IsDisk.keep {F : Nat → Prop} (h : IsDisk tD tB tW w base p bl vW D) (hk : Kp F w w') (hF : ∀ k, footD p bl vW k → ¬ F k) : IsDisk tD tB tW w' base p bl vW D :=
  { h with
    hp := (hk.block p h.lt.1 (hF p (.inl rfl))).trans h.hp
    hl := (hk.block bl h.lt.2 (hF bl (.inr (.inl rfl)))).trans h.hl
    hw := hk.own h.hw fun k e => hF k (.inr (.inr e)) }
theorem IsDisk.below (h : IsDisk tD tB tW w base p bl vW D) (hb : Below w.heap.size w w') : IsDisk tD tB tW w' base p bl vW D :=
  h.keep (F := fun _ => False) (Kp.of_below hb) (fun _ _ h => h)
/-- One of its fields is stored anew. -/
theorem IsDisk.field (h : IsDisk tD tB tW w base p bl vW D) (j : Nat) (v : Value) (left : Int) (down : Bool) (hl : -1 ≤ left ∧ left ≤ 9223372036854775807)
    (hv : (#[.slice (some ⟨bl, 0, none⟩) D.l.length D.l.length, vW, .int .i64 D.left, .bool D.down] : Array Value).setIfInBounds j v = #[.slice (some ⟨bl, 0, none⟩) D.l.length D.l.length, vW, .int .i64 left, .bool down]) :
    IsDisk tD tB tW (w.setCell ⟨p, j, none⟩ v) base p bl vW { D with left := left, down := down } where
  hp := by rw [heap_setCell_same w p j _ tD v h.hp, hv]
  hl := by rw [heap_setCell_other w _ _ _ (Ne.symm h.ne)]; exact h.hl
  hw := (Kp.setCell (F := fun k => k = p) (Kp.refl _ _) (x := ⟨p, j, none⟩) (.inl rfl) v).own h.hw fun k e hk => (h.neW k e).1 hk
  l64 := h.l64
  w64 := h.w64
  left := hl
  n := h.n
  bp := h.bp
  bbl := h.bbl
  ne := h.ne
  neW := h.neW
/-- One more write waits. -/
theorem IsDisk.wrote (h : IsDisk tD tB tW w base p bl vW D) {v' : Value} (hg : w.grownBy w' vW.ownBlock) (i : Int) (b : List UInt8) (hi : 0 ≤ i ∧ i < D.l.length) (hb : b.length = 64)
    (ho : w'.ownsRow base tW 65 v' (D.waits.length + 1) (flatW D.waits ++ (.int .i64 i :: b.map u8v))) (hv : ∀ k, v'.ownBlock = some k → vW.ownBlock = some k ∨ w.heap.size ≤ k) :
    IsDisk tD tB tW (w'.setCell ⟨p, 1, none⟩ v') base p bl v' { D with waits := D.waits ++ [(i.toNat, b)] } where
  hp := by
    have hp' := (hg.block p h.lt.1 (fun e => (h.neW p e.symm).1 rfl)).trans h.hp
    rw [heap_setCell_same w' p 1 _ tD v' hp']; rfl
  hl := by rw [heap_setCell_other w' _ _ _ (Ne.symm h.ne)]; exact (hg.block bl h.lt.2 (fun e => (h.neW bl e.symm).2 rfl)).trans h.hl
  hw := by
    have e1 : flatW (D.waits ++ [(i.toNat, b)]) = flatW D.waits ++ (.int .i64 i :: b.map u8v) := by
      simp [flatW, List.flatMap_append, Int.toNat_of_nonneg hi.1]
    have e2 : (D.waits ++ [(i.toNat, b)]).length = D.waits.length + 1 := by simp
    simp only [e1, e2]
    exact (Kp.setCell (F := fun k => k = p) (Kp.refl _ _) (x := ⟨p, 1, none⟩) (.inl rfl) v').own ho fun k e hk => by
      have := hv k e
      subst hk
      rcases this with h1 | h1
      · exact (h.neW _ h1).1 rfl
      · exact absurd h.lt.1 (by omega)
  l64 := h.l64
  w64 := by
    intro x hx
    rcases List.mem_append.1 hx with hx | hx
    · exact h.w64 x hx
    · obtain rfl : x = (i.toNat, b) := by simpa using hx
      exact ⟨hb, by simp only; omega⟩
  left := h.left
  n := h.n
  bp := h.bp
  bbl := h.bbl
  ne := h.ne
  neW := fun k e => by
    rcases hv k e with h1 | h1
    · exact h.neW k h1
    · exact ⟨fun e2 => by have := h.lt.1; omega, fun e2 => by have := h.lt.2; omega⟩
/-- A block's bytes are laid. -/
theorem IsDisk.laid (h : IsDisk tD tB tW w base p bl vW D) (i : Nat) (b : List UInt8) (hb : b.length = 64) (hg : w.grownBy w' (some bl)) (hr : w'.heap[bl]? = some (.cells (flatL (D.l.set i b)).toArray tB (0, 0))) :
    IsDisk tD tB tW w' base p bl vW { D with l := D.l.set i b } where
  hp := by simp only [List.length_set]; exact (hg.block p h.lt.1 (fun e => h.ne (Option.some.inj e))).trans h.hp
  hl := hr
  hw := (Kp.grown (F := fun k => k = bl) (Kp.refl _ _) hg (fun k e => .inl (by cases e; rfl))).own h.hw fun k e hk => (h.neW k e).2 hk
  l64 := fun x hx => by
    rcases List.mem_or_eq_of_mem_set hx with h1 | h1
    · exact h.l64 x h1
    · rw [h1]; exact hb
  w64 := fun x hx => by simp only [List.length_set]; exact h.w64 x hx
  left := h.left
  n := by simp only [List.length_set]; exact h.n
  bp := h.bp
  bbl := h.bbl
  ne := h.ne
  neW := h.neW
/-- A write that waits, where it lies. -/
theorem IsDisk.wait_at (h : IsDisk tD tB tW w base p bl vW D) (k : Nat) (hk : k < D.waits.length) :
    ∃ (g cap : Nat) (cur : Array Value) (i : Nat) (b : List UInt8), vW = .slice (some ⟨g, 0, none⟩) D.waits.length cap ∧ D.waits.length ≤ cap ∧ cap ≤ maxLen ∧ w.heap[g]? = some (.cells cur tW (0, 0)) ∧ k * 65 + 65 ≤ cur.size ∧
      cur.extract (k * 65) (k * 65 + 65) = (.int .i64 (i : Int) :: b.map u8v : List Value).toArray ∧ D.waits[k]? = some (i, b) ∧ b.length = 64 ∧ i < D.l.length := by
  rcases h.hw.2 with ⟨_, h0⟩ | ⟨g, cap, cur, hv, hb, hg, hle, hm, hs, ht⟩
  · omega
  · have hx : D.waits[k]? = some D.waits[k] := List.getElem?_eq_getElem hk
    refine ⟨g, cap, cur, D.waits[k].1, D.waits[k].2, hv, hle, hm, hg, by omega, ?_, hx, (h.w64 _ (List.getElem_mem hk)).1, (h.w64 _ (List.getElem_mem hk)).2⟩
    have h1 := flat_at (D.waits.map fun x => (Value.int .i64 (x.1 : Int) :: x.2.map u8v)) (rows_w h.w64) k (by simpa using hk)
    rw [← flatW_rows, ← ht, List.drop_take, List.take_take] at h1
    rw [show min 65 (D.waits.length * 65 - k * 65) = 65 by omega] at h1
    simp only [List.getElem_map] at h1
    rw [← h1]
    apply Array.ext'
    rw [Array.toList_extract, List.extract_eq_take_drop, Nat.add_sub_cancel_left]
/-- What waits is sure now. -/
theorem IsDisk.sure (h : IsDisk tD tB tW w base p bl vW D) (j : Nat) (hj : j = 1) : IsDisk tD tB tW (w.setCell ⟨p, j, none⟩ (.slice none 0 0)) base p bl (.slice none 0 0) { D with waits := [] } where
  hp := by subst hj; rw [heap_setCell_same w p 1 _ tD _ h.hp]; rfl
  hl := by rw [heap_setCell_other w _ _ _ (Ne.symm h.ne)]; exact h.hl
  hw := World.ownsRow_nil _ _ _ _
  l64 := h.l64
  w64 := fun x hx => nomatch hx
  left := h.left
  n := h.n
  bp := h.bp
  bbl := h.bbl
  ne := h.ne
  neW := fun k e => nomatch e
/-- It begins anew. -/
theorem IsDisk.anew (h : IsDisk tD tB tW w base p bl vW D) :
    IsDisk tD tB tW (((w.setCell ⟨p, 1, none⟩ (.slice none 0 0)).setCell ⟨p, 2, none⟩ (.int .i64 (-1))).setCell ⟨p, 3, none⟩ (.bool false)) base p bl (.slice none 0 0) { l := D.l, waits := [], left := -1, down := false } :=
  ((h.sure 1 rfl).field 2 (.int .i64 (-1)) (-1) D.down (by omega) rfl).field 3 (.bool false) (-1) false (by simp) rfl
theorem IsDisk.kp_field (j : Nat) (v : Value) : Kp (footD p bl vW) w (w.setCell ⟨p, j, none⟩ v) := (Kp.refl _ _).setCell (.inl (.inl rfl)) v
end

/-- Bytes that lie outside of a disk. -/
structure Out (w : World) (p bl : Nat) (vW : Value) (a : Option Addr) (n c : Nat) (bs : List UInt8) : Prop where
  rd : RdB w a n c bs
  nf : ∀ k o, a = some ⟨k, o, none⟩ → bs ≠ [] → ¬ footD p bl vW k
section
variable {tD tB tW : TypeId} {w w' w2 : World} {base p bl : Nat} {vW vW' : Value} {D : Dk} {a : Option Addr} {n c : Nat} {bs : List UInt8}
theorem Out.step (h : Out w p bl vW a n c bs) (hk : Kp (footD p bl vW) w w') (hv : ∀ k, vW'.ownBlock = some k → vW.ownBlock = some k ∨ w.heap.size ≤ k) : Out w' p bl vW' a n c bs :=
  ⟨hk.rdB h.rd h.nf, fun k o e hn hf => by
    rcases hf with hf | hf | hf
    · exact h.nf k o e hn (.inl hf)
    · exact h.nf k o e hn (.inr (.inl hf))
    · rcases hv k hf with hf | hf
      · exact h.nf k o e hn (.inr (.inr hf))
      · have := h.rd.lt k o e (by simpa using hn)
        omega⟩
theorem Out.below (h : Out w p bl vW a n c bs) (hb : Below w.heap.size w w') : Out w' p bl vW a n c bs := ⟨h.rd.below hb, h.nf⟩
theorem Out.alloc (h : Out w p bl vW a n c bs) (o : Obj) : Out (w.alloc o) p bl vW a n c bs := h.below ((Below.refl _ _).alloc (Nat.le_refl _) o)
/-- What lies below a disk. -/
theorem Out.under (hd : IsDisk tD tB tW w base p bl vW D) (r : RdB w a n c bs) (hl : ∀ k o, a = some ⟨k, o, none⟩ → bs ≠ [] → k < base) : Out w p bl vW a n c bs :=
  ⟨r, fun k o e hn hf => by have := (hd.foot_lt k hf).1; have := hl k o e hn; omega⟩
/-- What is made behind a disk. -/
theorem Out.fresh {t : TypeId} (hd : IsDisk tD tB tW w base p bl vW D) {b2 : Nat} (ho : OwnB w' b2 t (.slice a bs.length c) bs) (hb : w.heap.size ≤ b2) : Out w' p bl vW a bs.length c bs := by
  obtain ⟨a1, c1, e1, hr, hl, _⟩ := rd_of_own ho
  cases e1
  exact ⟨hr, fun k o e _ hf => by have := (hd.foot_lt k hf).2; have := (hl k o e).1; omega⟩
end
end Go.NB
namespace Go.Proofs.Ytjfidhjnbcmhfaa
open Go.RowKit
open Go.NB (Rd Dk Kp footD)

abbrev IsD (w : World) (base p bl : Nat) (vW : Value) (D : Dk) : Prop := NB.IsDisk 56 79 81 w base p bl vW D

set_option maxHeartbeats 400000 in
theorem up_nil (w : World) : Calls Try.prog 72 #[.pointer none] w fun e w' => e = .returned (.int .i64 1) ∧ w' = w := by
  go_enter Try.func72, Try.ntmps72
  go_wp2
  go_ret
  exact ⟨rfl, rfl⟩

set_option maxHeartbeats 400000 in
theorem up_any (w : World) (base p bl : Nat) (vW : Value) (D : Dk) (h : IsD w base p bl vW D) :
    Calls Try.prog 72 #[.pointer (some ⟨p, 0, none⟩)] w fun e w' => e = .returned (.int .i64 D.up) ∧ w' = w := by
  have c3 := h.cell 3 _ rfl
  unfold Dk.up
  cases hd : D.down with
  | true =>
    rw [hd] at c3
    clear hd
    go_enter Try.func72, Try.ntmps72
    go_wp2
    go_ret
    exact ⟨rfl, rfl⟩
  | false =>
    rw [hd] at c3
    clear hd
    go_enter Try.func72, Try.ntmps72
    go_wp2
    go_ret
    exact ⟨rfl, rfl⟩

set_option maxHeartbeats 400000 in
theorem at_nil (w : World) (i : Int) : Calls Try.prog 66 #[.pointer none, .int .i64 i] w fun e w' => e = .returned (.int .i64 1) ∧ w' = w := by
  go_enter Try.func66, Try.ntmps66
  go_wp2_with (go_at_call 72; refine (up_nil _).mono ?_; rintro e w' ⟨rfl, rfl⟩)
  go_ret
  exact ⟨rfl, rfl⟩

set_option maxHeartbeats 400000 in
theorem at_any (w : World) (base p bl : Nat) (vW : Value) (D : Dk) (i : Int) (h : IsD w base p bl vW D) :
    Calls Try.prog 66 #[.pointer (some ⟨p, 0, none⟩), .int .i64 i] w fun e w' => e = .returned (.int .i64 (D.at_ i)) ∧ w' = w := by
  have c0 := h.cell 0 _ rfl
  unfold Dk.at_
  have hu : D.up = if D.down then 20 else 0 := rfl
  cases hd : D.down with
  | true =>
    rw [hd] at hu
    have HU := Go.Lib.hid hu; clear hu hd
    go_enter Try.func66, Try.ntmps66
    go_wp2_with (go_at_call 72; refine (up_any _ _ _ _ _ _ h).mono ?_; rw [HU.out]; rintro e w' ⟨rfl, rfl⟩)
    go_ret
    exact ⟨rfl, rfl⟩
  | false =>
    rw [hd] at hu
    have HU := Go.Lib.hid hu; clear hu hd
    by_cases h1 : i < 0
    · go_enter Try.func66, Try.ntmps66
      go_wp2_with (go_at_call 72; refine (up_any _ _ _ _ _ _ h).mono ?_; rw [HU.out]; rintro e w' ⟨rfl, rfl⟩)
      go_ret
      exact ⟨by simp [h1], rfl⟩
    · by_cases h2 : (D.l.length : Int) ≤ i
      · go_enter Try.func66, Try.ntmps66
        go_wp2_with (go_at_call 72; refine (up_any _ _ _ _ _ _ h).mono ?_; rw [HU.out]; rintro e w' ⟨rfl, rfl⟩)
        go_ret
        exact ⟨by simp [h2], rfl⟩
      · go_enter Try.func66, Try.ntmps66
        go_wp2_with (go_at_call 72; refine (up_any _ _ _ _ _ _ h).mono ?_; rw [HU.out]; rintro e w' ⟨rfl, rfl⟩)
        go_ret
        exact ⟨by simp [h1, h2], rfl⟩

set_option maxHeartbeats 400000 in
theorem counts_any (w : World) (base p bl : Nat) (vW : Value) (D : Dk) (h : IsD w base p bl vW D) :
    Calls Try.prog 70 #[.pointer (some ⟨p, 0, none⟩)] w fun e w' => e = .returned (.int .i64 D.counts.2) ∧ IsD w' base p bl vW D.counts.1 ∧ Kp (footD p bl vW) w w' := by
  have c2 := h.cell 2 _ rfl
  have c3 := h.cell 3 _ rfl
  have f2 := h.free 2
  have f3 := h.free 3
  have hl := h.left
  by_cases h0 : D.left = 0
  · have e0 : (D.left == 0) = true := by simp [h0]
    have hc : D.counts = ({ D with down := true }, 20) := by simp [Dk.counts, h0]
    rw [hc]
    have hn := h.field 3 (.bool true) D.left true hl rfl
    go_enter Try.func70, Try.ntmps70
    go_wp2
    go_ret
    exact ⟨rfl, hn, NB.IsDisk.kp_field _ _⟩
  · have e0 : (D.left == 0) = false := by simp [h0]
    by_cases h1 : D.left = -1
    · have hc : D.counts = ({ D with left := -1 }, 0) := by simp only [Dk.counts, h0, if_false]; rw [show max (D.left - 1) (-1) = -1 by omega]
      rw [hc]
      have hn := h.field 2 (.int .i64 (-1)) (-1) D.down (by omega) rfl
      have h2 : D.left - 1 < -1 := by omega
      go_enter Try.func70, Try.ntmps70
      go_wp2
      go_ret
      exact ⟨rfl, hn, NB.IsDisk.kp_field _ _⟩
    · have hc : D.counts = ({ D with left := D.left - 1 }, 0) := by simp only [Dk.counts, h0, if_false]; rw [show max (D.left - 1) (-1) = D.left - 1 by omega]
      rw [hc]
      have hn := h.field 2 (.int .i64 (D.left - 1)) (D.left - 1) D.down (by omega) rfl
      have h2 : ¬ D.left - 1 < -1 := by omega
      have h3 : -1 ≤ D.left - 1 := by omega
      clear h1 hc
      go_enter Try.func70, Try.ntmps70
      go_wp2
      go_ret
      exact ⟨rfl, hn, NB.IsDisk.kp_field _ _⟩

set_option maxHeartbeats 400000 in
theorem stop_nil (w : World) (x : Int) : Calls Try.prog 16 #[.pointer none, .int .i64 x] w fun e w' => e = .returned (.tuple #[]) ∧ w' = w := by
  go_enter Try.func16, Try.ntmps16
  go_wp2
  go_end0
  exact ⟨rfl, rfl⟩

set_option maxHeartbeats 400000 in
theorem stop_any (w : World) (base p bl : Nat) (vW : Value) (D : Dk) (x : Int) (hx : x ≤ 9223372036854775807) (h : IsD w base p bl vW D) :
    Calls Try.prog 16 #[.pointer (some ⟨p, 0, none⟩), .int .i64 x] w fun e w' => e = .returned (.tuple #[]) ∧ IsD w' base p bl vW (D.stop x) ∧ Kp (footD p bl vW) w w' := by
  have c2 := h.cell 2 _ rfl
  have f2 := h.free 2
  by_cases h1 : x < -1
  · have hc : D.stop x = { D with left := -1 } := by simp only [Dk.stop]; rw [show max x (-1) = -1 by omega]
    rw [hc]
    have hn := h.field 2 (.int .i64 (-1)) (-1) D.down (by omega) rfl
    go_enter Try.func16, Try.ntmps16
    go_wp2
    go_end0
    exact ⟨rfl, hn, NB.IsDisk.kp_field _ _⟩
  · have hc : D.stop x = { D with left := x } := by simp only [Dk.stop]; rw [show max x (-1) = x by omega]
    rw [hc]
    have hn := h.field 2 (.int .i64 x) x D.down (by omega) rfl
    have h2 : -1 ≤ x := by omega
    clear hc
    go_enter Try.func16, Try.ntmps16
    go_wp2
    go_end0
    exact ⟨rfl, hn, NB.IsDisk.kp_field _ _⟩

set_option maxHeartbeats 400000 in
theorem len_nil (w : World) : Calls Try.prog 34 #[.pointer none] w fun e w' => e = .returned (.int .i64 0) ∧ w' = w := by
  go_enter Try.func34, Try.ntmps34
  go_wp2
  go_ret
  exact ⟨rfl, rfl⟩

set_option maxHeartbeats 400000 in
theorem len_any (w : World) (base p bl : Nat) (vW : Value) (D : Dk) (h : IsD w base p bl vW D) :
    Calls Try.prog 34 #[.pointer (some ⟨p, 0, none⟩)] w fun e w' => e = .returned (.int .i64 (D.l.length : Int)) ∧ w' = w := by
  have c0 := h.cell 0 _ rfl
  go_enter Try.func34, Try.ntmps34
  go_wp2
  go_ret
  exact ⟨rfl, rfl⟩

end Go.Proofs.Ytjfidhjnbcmhfaa
namespace Go.Proofs.Ytjfidhjnbcmhfaa
open Go.RowKit
open Go.NB (Rd Dk Kp footD)

theorem slTW : NB.SlT Try.prog 54 81 (.agg ((.int .i64 0 :: List.replicate 64 (.int .u8 0)).toArray)) 65 72 :=
  ⟨Try.underlying54, info_parts (by kernel_rfl), by kernel_rfl, by omega⟩

set_option maxHeartbeats 400000 in
theorem write_nil (w : World) (i : Int) (v : Value) : Calls Try.prog 59 #[.pointer none, .int .i64 i, v] w fun e w' => e = .returned (.int .i64 1) ∧ w' = w := by
  go_enter Try.func59, Try.ntmps59
  go_wp2_with (go_at_call 66; refine (at_nil _ _).mono ?_; rintro e w' ⟨rfl, rfl⟩)
  go_ret
  exact ⟨rfl, rfl⟩

/-- What a write leaves. -/
def WroteD (w : World) (base p bl : Nat) (vW : Value) (r : Dk × Int) (e : Ending) (w' : World) : Prop :=
  e = .returned (.int .i64 r.2) ∧ ∃ vW', IsD w' base p bl vW' r.1 ∧ Kp (footD p bl vW) w w' ∧ ∀ k, vW'.ownBlock = some k → vW.ownBlock = some k ∨ w.heap.size ≤ k

/-- A write's row of cells. -/
def zW (i : Int) : List Value := .int .i64 i :: List.replicate 64 (.int .u8 0)

theorem info_w {i : Int} : (Try.prog.info? 81).map (·.size) = some (zW i).toArray.size := by
  rw [show (zW i).toArray.size = 65 by simp [zW]]; kernel_rfl

theorem wpl_build_w {ops : Array Oper} {rest : List Oper} {o : Oper} {a : Act} {w : World} {Q : Exit → Act → World → Prop} (hg : o.guard = none) (x : Operand) (ho : o.op = .build 81 #[(0, x)]) (i : Int) (hx : a.eval x = .int .i64 i)
    (h : wpList Try.prog ops Q rest (a.put o.dst (.agg (zW i).toArray)) w) : wpList Try.prog ops Q (o :: rest) a w := by
  have hb : Try.prog.built 81 [(0, .int .i64 i)] = some (zW i).toArray := by kernel_rfl
  refine wpList_build hg 81 _ ho ?_ ?_
  · simp only [List.map_toArray, List.map_cons, List.map_nil, hx]
    rw [hb]; rfl
  · simp only [List.map_toArray, List.map_cons, List.map_nil, hx]
    rw [hb]; exact h

theorem zW_one (i : Int) : ∀ v ∈ (zW i).toArray.toList, v.oneCell' = true := by
  intro v hv
  simp only [zW, List.mem_cons, List.mem_replicate] at hv
  rcases hv with rfl | ⟨_, rfl⟩ <;> rfl
theorem zW_size (i : Int) : (zW i).toArray.size = 65 := by simp [zW]
theorem zW_len (i : Int) : (zW i).length = 65 := by simp [zW]
theorem zW_splice (i : Int) : NB.splice (zW 0).toArray 0 (zW i).toArray.toList = (zW i).toArray := NB.splice_all _ _ (by simp [zW])

/-- The row of a write. -/
def rW (i : Int) (b : List UInt8) : List Value := .int .i64 i :: b.map NB.u8v
theorem rW_splice (i : Int) (b : List UInt8) (h : b.length = 64) : splice (zW i) 1 (b.map NB.u8v) = rW i b := by
  simp [splice, zW, rW, h]
theorem rW_one (i : Int) (b : List UInt8) : ∀ v ∈ rW i b, v.oneCell' = true := by
  intro v hv
  rcases List.mem_cons.1 hv with rfl | hv
  · rfl
  · exact NB.u8v_one b v hv

theorem cp {w : World} {a : Option Addr} {n c : Nat} {b : List UInt8} (h : NB.RdB w a n c b) (hp : 0 < (b.map NB.u8v).length) : ∃ ad, a = some ad ∧ ∀ j v, (b.map NB.u8v)[j]? = some v → w.cell? (ad.add j) = some v := by
  have hs := NB.RdB.size h
  obtain ⟨g, o, rfl, hc⟩ := Rd.pos h (by rw [List.length_map] at hp; omega)
  exact ⟨_, rfl, fun j v hj => by rw [NB.addr_add]; exact hc j v hj⟩

theorem zero_w (w : World) : (zeroValue 81).run Try.prog w = .ok (.agg (zW 0).toArray) w := by
  have hi : (Try.prog.info? 81).bind (·.zero) = some (.agg (zW 0).toArray) := by kernel_rfl
  cases hq : Try.prog.info? 81 with
  | none => rw [hq] at hi; cases hi
  | some i =>
    rw [hq] at hi
    have hz : i.zero = some (.agg (zW 0).toArray) := hi
    simp [zeroValue, typeInfo, hq, hz]

set_option maxRecDepth 100000 in
set_option maxHeartbeats 1000000 in
theorem write_any (w : World) (base p bl : Nat) (vW : Value) (D : Dk) (i : Int) (a : Option Addr) (n c : Nat) (b : List UInt8) (h : IsD w base p bl vW D) (hb : NB.RdB w a n c b) (hF : ∀ k o, a = some ⟨k, o, none⟩ → b ≠ [] → ¬ footD p bl vW k) (hwn : D.waits.length ≤ 1000000) (hbase : base ≤ w.heap.size) :
    Calls Try.prog 59 #[.pointer (some ⟨p, 0, none⟩), .int .i64 i, .slice a n c] w (WroteD w base p bl vW (D.write i b)) := by
  obtain rfl : n = b.length := (NB.RdB.size hb).symm
  have hbd := Rd.bound hb
  by_cases h1 : D.at_ i = 0
  · by_cases h64 : b.length = 64
    · have hn64 : ((b.length : Int) != 64) = false := by simp [h64]
      by_cases h0 : D.left = 0
      · have hc : D.counts = ({ D with down := true }, 20) := by simp [Dk.counts, h0]
        have hq : D.write i b = ({ D with down := true }, 20) := by simp [Dk.write, h1, h64, h0]
        rw [hq]
        go_enter Try.func59, Try.ntmps59
        go_wp2_with (first
          | (go_at_call 66; refine (at_any _ _ _ _ _ _ _ h).mono ?_; rw [h1]; rintro e w' ⟨rfl, rfl⟩)
          | (go_at_call 70; refine (counts_any _ _ _ _ _ _ h).mono ?_; rw [hc]; rintro e w1 ⟨rfl, hd1, hk1⟩))
        go_ret
        exact ⟨rfl, vW, hd1, hk1, fun k hk => .inl hk⟩
      · have hc2 : D.counts.2 = 0 := by simp [Dk.counts, h0]
        have hC := h
        have kz := zero_w
        go_enter Try.func59, Try.ntmps59
        go_wp2_with (first
          | (go_at_call 66; refine (at_any _ _ _ _ _ _ _ h).mono ?_; rw [h1]; rintro e w' ⟨rfl, rfl⟩)
          | (go_at_call 70; refine (counts_any _ _ _ _ _ _ h).mono ?_; rw [hc2]; rintro e w1 ⟨rfl, hd1, hk1⟩)
          | (with_reducible refine wpl_build_w rfl (.tmp 24) rfl i rfl ?_)
          | (refine NB.wpList_store_agg_any rfl 81 (.tmp 9) (.tmp 25) rfl rfl w1.heap.size 0 (zW i).toArray rfl rfl 81 (zW 0).toArray (heap_alloc_new w1 _) info_w (by rw [zW_size, zW_size]; omega) (zW_one i) _ (zW_splice i) ?_; intro w2 hg2 hr2 hs2; have hk2 : Kp (footD p bl vW) w' w2 := (hk1.alloc _).grown hg2 (fun k hk => .inr (by cases hk; exact hk1.size)); have hb2 : NB.RdB w2 a 64 c b := by rw [← h64]; exact hk2.rdB hb hF)
          | (refine wpList_copy_splice rfl (.tmp 27) (.tmp 28) 22 22 rfl 5 Try.underlying22 (by kernel_rfl) (some ⟨w1.heap.size, 1, none⟩) a 64 64 64 c rfl rfl w1.heap.size 1 (zW i) 81 hr2 (b.map NB.u8v) (by simp [h64]) (fun hp => ⟨rfl, cp hb2 hp⟩) (by simp [zW, h64]) (NB.u8v_one b) w1.heap.size w2 (Below.refl _ _) (Nat.le_refl _) ?_; intro w3 hr3 hb3))
        have hc1 : D.counts.1 = { D with left := max (D.left - 1) (-1) } := by simp [Dk.counts, h0]
        rw [hc1] at hd1
        have B13 : Below w1.heap.size w1 w3 := ((((Below.refl w1.heap.size w1).alloc (Nat.le_refl _) _).grown hg2 (by simp) (by rintro k hk; cases hk; exact Nat.le_refl _))).trans hb3
        have B14 : Below w1.heap.size w1 w3.drew := ⟨B13.os, B13.tape, B13.output, B13.size, B13.block⟩
        have hr4 : w3.drew.heap[w1.heap.size]? = some (.cells (rW i b).toArray 81 (0, 0)) := by
          rw [← rW_splice i b h64]; exact hr3.out
        refine NB.wp_region_t [7, 10] (by kernel_rfl) ?_
        generalize w3.drew = w4 at *
        have hd4 := hd1.below B14
        have c1 := hd4.cell 1 vW rfl
        refine NB.t_p 0 rfl (by kernel_rfl) (fun K hK => ?_); go_simp; refine hK _ ?_; clear hK K
        refine NB.t_p 1 rfl (by kernel_rfl) (fun K hK => ?_); go_simp; refine hK _ ?_; clear hK K
        refine NB.t_p 2 rfl (by kernel_rfl) (fun K hK => ?_); go_simp; refine hK _ ?_; clear hK K
        refine NB.t_p 3 rfl (by kernel_rfl) (fun K hK => ?_); go_simp; refine hK _ ?_; clear hK K
        refine NB.t_r 4 [7, 8, 9, 10] rfl (by kernel_rfl) (by kernel_rfl) rfl _ (fun w' hw' => NB.run_op_load rfl rfl Try.underlying54 rfl c1 hw') (fun K hK => ?_); go_simp; refine hK _ ?_; clear hK K
        refine NB.t_r 5 [6, 7, 8, 9, 10] rfl (by kernel_rfl) (by kernel_rfl) rfl _ (fun w' hw' => NB.run_op_load_agg rfl rfl Try.underlying81 rfl 81 (rW i b).toArray (0, 0) hr4 (m := 65) (by kernel_rfl) (by simp [rW, h64]) (rW i b).toArray (NB.ext_all _ _ (by simp [rW, h64])) hw') (fun K hK => ?_); go_simp; refine hK _ ?_; clear hK K
        refine NB.t_m 6 rfl (by kernel_rfl) (by kernel_rfl) rfl (fun K hK => ?_)
        refine NB.tmoves_build_one slTW (by omega) rfl (rW i b).toArray rfl (by simp [rW, h64]) (hK _ _ ?_); clear hK K
        refine NB.t_w 7 rfl (by kernel_rfl) (by kernel_rfl) rfl (fun Q' hK => ?_)
        have hd5 := hd4.below ((Below.refl _ w4).alloc (Nat.le_refl _) (.cells (rW i b).toArray 81))
        refine NB.wpList_append_at rfl (.tmp 34) (.tmp 36) 54 rfl base slTW vW D.waits.length (NB.flatW D.waits) rfl hd5.hw (some ⟨w4.heap.size, 0, none⟩) 1 1 (rW i b) rfl ?_ (rW_one i b) (by omega) (by unfold maxLen; omega) ?_ ?_
        · exact NB.rd_new w4 (rW i b).toArray 81 1 (by simp [rW, h64]) (by unfold maxLen; omega) rfl
        · have := hk1.size; have := B14.size; simp; omega
        intro v' w5 ho5 hg5 hv5
        refine hK _ _ ?_
        clear hK Q'
        go_simp
        refine NB.t_p 8 rfl (by kernel_rfl) (fun K hK => ?_); go_simp; refine hK _ ?_; clear hK K
        refine NB.t_p 9 rfl (by kernel_rfl) (fun K hK => ?_); go_simp; refine hK _ ?_; clear hK K
        have hq : D.write i b = ({ D with left := max (D.left - 1) (-1), waits := D.waits ++ [(i.toNat, b)] }, 0) := by simp [Dk.write, h1, h64, h0]
        have hn := hd5.wrote hg5 i b (NB.at_zero h1) h64 ho5 hv5
        have hp5 := (hg5.block p hd5.lt.1 (fun e => (hd5.neW p e.symm).1 rfl)).trans hd5.hp
        have c5 : w5.cell? ⟨p, 1, none⟩ = some vW := by rw [cell_of_row _ _ _ _ _ _ hp5]; rfl
        have f5 : w5.frozen? ⟨p, 1, none⟩ = false := frozen_of_row _ _ _ _ _ hp5
        clear hp5
        have hk6 : Kp (footD p bl vW) w' (w5.setCell ⟨p, 1, none⟩ v') := by
          refine Kp.setCell (Kp.grown ((hk1.trans_below B14 hk1.size).alloc _) hg5 (fun k hk => .inl (.inr (.inr hk)))) (.inl (.inl rfl)) v'
        have hv6 : ∀ k, v'.ownBlock = some k → vW.ownBlock = some k ∨ w'.heap.size ≤ k := fun k hk => by
          rcases hv5 k hk with h7 | h7
          · exact .inl h7
          · have := hk1.size; have := B14.size; simp at h7; exact .inr (by omega)
        obtain ⟨a', c', e', _⟩ := NB.rd_of_own ho5
        subst e'
        refine NB.t_w 10 rfl (by kernel_rfl) (by kernel_rfl) rfl (fun Q' hK => ?_)
        go_wp2
        refine NB.t_end (by kernel_rfl) ?_
        go_wp2
        go_ret
        rw [hq]
        exact ⟨rfl, _, hn, hk6, hv6⟩
    · have hn64 : ((b.length : Int) != 64) = true := by simp; omega
      have hq : D.write i b = (D, 1) := by simp [Dk.write, h1, h64]
      rw [hq]
      go_enter Try.func59, Try.ntmps59
      go_wp2_with (first
        | (go_at_call 66; refine (at_any _ _ _ _ _ _ _ h).mono ?_; rw [h1]; rintro e w' ⟨rfl, rfl⟩))
      go_ret
      exact ⟨rfl, vW, h, Kp.refl _ _, fun k hk => .inl hk⟩
  · have hq : D.write i b = (D, D.at_ i) := by simp [Dk.write, h1]
    have hne : (D.at_ i != 0) = true := by simp [h1]
    rw [hq]
    go_enter Try.func59, Try.ntmps59
    go_wp2_with (first
      | (go_at_call 66; refine (at_any _ _ _ _ _ _ _ h).mono ?_; rintro e w' ⟨rfl, rfl⟩))
    go_ret
    exact ⟨rfl, vW, h, Kp.refl _ _, fun k hk => .inl hk⟩
end Go.Proofs.Ytjfidhjnbcmhfaa
namespace Go.Proofs.Ytjfidhjnbcmhfaa
open Go.RowKit
open Go.NB (Rd Dk Kp footD)

set_option maxHeartbeats 400000 in
theorem sync_nil (w : World) : Calls Try.prog 61 #[.pointer none] w fun e w' => e = .returned (.int .i64 1) ∧ w' = w := by
  go_enter Try.func61, Try.ntmps61
  go_wp2_with (go_at_call 72; refine (up_nil _).mono ?_; rintro e w' ⟨rfl, rfl⟩)
  go_ret
  exact ⟨rfl, rfl⟩

/-- What a sync leaves. -/
def SyncedD (w : World) (base p bl : Nat) (vW : Value) (r : Dk × Int) (e : Ending) (w' : World) : Prop :=
  e = .returned (.int .i64 r.2) ∧ ∃ vW', IsD w' base p bl vW' r.1 ∧ Kp (footD p bl vW) w w' ∧ ∀ k, vW'.ownBlock = some k → vW.ownBlock = some k

/-- Behind so many of the writes. -/
def midD (D : Dk) (k : Nat) : Dk := { D with l := Dk.lay D.l (D.waits.take k) }

theorem lay_len (ws : List (Nat × List UInt8)) : ∀ l : List (List UInt8), (Dk.lay l ws).length = l.length := by
  induction ws with
  | nil => intro l; rfl
  | cons x ws ih => intro l; exact (ih (l.set x.1 x.2)).trans (by simp)

theorem midD_succ (D : Dk) (k i : Nat) (b : List UInt8) (h : D.waits[k]? = some (i, b)) : midD D (k + 1) = { midD D k with l := (midD D k).l.set i b } := by
  obtain ⟨hk, e⟩ := List.getElem?_eq_some_iff.1 h
  unfold midD Dk.lay
  rw [List.take_succ_eq_append_getElem hk, e, List.foldl_append]
  rfl

theorem info_r {i : Int} {b : List UInt8} (h : b.length = 64) : (Try.prog.info? 81).map (·.size) = some (rW i b).toArray.size := by
  rw [show (rW i b).toArray.size = 65 by simp [rW, h]]; kernel_rfl
theorem info_b {b : List UInt8} (h : b.length = 64) : (Try.prog.info? 79).map (·.size) = some (b.map NB.u8v).toArray.size := by
  rw [show (b.map NB.u8v).toArray.size = 64 by simp [h]]; kernel_rfl

set_option maxHeartbeats 1000000 in
theorem sync_any (w : World) (base p bl : Nat) (vW : Value) (D : Dk) (h : IsD w base p bl vW D) (hwn : D.waits.length ≤ 1000000) :
    Calls Try.prog 61 #[.pointer (some ⟨p, 0, none⟩)] w (SyncedD w base p bl vW D.sync) := by
  cases hd : D.down with
  | true =>
    have hq : D.sync = (D, 20) := by simp [Dk.sync, hd]
    have hu : D.up = 20 := by simp [Dk.up, hd]
    clear hd
    rw [hq]
    go_enter Try.func61, Try.ntmps61
    go_wp2_with (first
      | (go_at_call 72; refine (up_any _ _ _ _ _ _ h).mono ?_; rw [hu]; rintro e w' ⟨rfl, rfl⟩))
    go_ret
    exact ⟨rfl, vW, h, Kp.refl _ _, fun k hk => hk⟩
  | false =>
    have hu : D.up = 0 := by simp [Dk.up, hd]
    by_cases h0 : D.left = 0
    · have hc : D.counts = ({ D with down := true }, 20) := by simp [Dk.counts, h0]
      have hq : D.sync = ({ D with down := true }, 20) := by simp [Dk.sync, hd, h0]
      clear hd
      rw [hq]
      go_enter Try.func61, Try.ntmps61
      go_wp2_with (first
        | (go_at_call 72; refine (up_any _ _ _ _ _ _ h).mono ?_; rw [hu]; rintro e w' ⟨rfl, rfl⟩)
        | (go_at_call 70; refine (counts_any _ _ _ _ _ _ h).mono ?_; rw [hc]; rintro e w1 ⟨rfl, hd1, hk1⟩))
      go_ret
      exact ⟨rfl, vW, hd1, hk1, fun k hk => hk⟩
    · have hc2 : D.counts.2 = 0 := by simp [Dk.counts, h0]
      have hc1 : D.counts.1 = { D with left := max (D.left - 1) (-1) } := by simp [Dk.counts, h0]
      have hq : D.sync = ({ D with left := max (D.left - 1) (-1), l := Dk.lay D.l D.waits, waits := [] }, 0) := by simp [Dk.sync, hd, h0]
      clear hd
      rw [hq]
      generalize hD1 : ({ D with left := max (D.left - 1) (-1) } : Dk) = D1 at hc1
      have hDl : D1.l = D.l := by rw [← hD1]
      have hDw : D1.waits = D.waits := by rw [← hD1]
      have hwn1 : D1.waits.length ≤ 1000000 := by rw [hDw]; exact hwn
      have hfin : ({ D with left := max (D.left - 1) (-1), l := Dk.lay D.l D.waits, waits := [] } : Dk) = { midD D1 D1.waits.length with waits := [] } := by
        rw [← hD1]; simp [midD]
      rw [hfin]
      have HH := Go.Lib.hid hD1; clear hD1 hfin hDl hq
      obtain ⟨a0, c0, hv0, hr0, _⟩ := NB.rd_of_own h.hw
      have hb0 := Rd.bound hr0
      have kz := zero_w
      go_enter Try.func61, Try.ntmps61
      go_wp2_with (first
        | (go_at_call 72; refine (up_any _ _ _ _ _ _ h).mono ?_; rw [hu]; rintro e w' ⟨rfl, rfl⟩)
        | (go_at_call 70; refine (counts_any _ _ _ _ _ _ h).mono ?_; rw [hc2, hc1]; rintro e w1 ⟨rfl, hd1, hk1⟩; have c1 : w1.cell? ⟨p, 1, none⟩ = some (.slice a0 D.waits.length c0) := by rw [← hv0]; exact hd1.cell 1 _ rfl))
      go_loopw [22] (fun i wr => ∃ k : Nat, k ≤ D.waits.length ∧ i = .int .i64 k ∧ IsD wr base p bl vW (midD D1 k) ∧ Kp (footD p bl vW) w' wr) (fun i _ => D.waits.length - (intOf i).toNat)
      case atStart => exact ⟨0, by omega, rfl, by simpa [midD, Dk.lay] using hd1, hk1⟩
      case round =>
        clear hd1 hk1 c1
        obtain ⟨k, hk, rfl, hdk, hkk⟩ := hrel
        by_cases hlt : k < D.waits.length
        · obtain ⟨g, cap, cur, i, b, hv, hcl, hcm, hg, hcs, hex, hwk, h64, hil⟩ := hdk.wait_at k (by simpa [midD, hDw] using hlt)
          rw [hv0] at hv
          injection hv with e1 e2 e3
          subst e1 e3
          clear e2
          have HEX := Go.Lib.hid hex; have HWK := Go.Lib.hid hwk; have HCS := Go.Lib.hid hcs; have HG := Go.Lib.hid hg
          clear hex hwk hcs hg
          have hki : (k : Int) < (D.waits.length : Int) := by omega
          go_wp2_with (first
            | (refine NB.wpList_load_agg rfl 81 (.tmp 24) rfl g (k * 65) 65 ?hx 81 cur (0, 0) _ HG.out Try.underlying81 rfl (by kernel_rfl) HCS.out (rW (i : Int) b).toArray HEX.out ?_; case hx => simp [Act.eval]; try omega)
            | (refine NB.wpList_store_agg_any rfl 81 (.tmp 6) (.tmp 25) rfl rfl wr.heap.size 0 (rW (i : Int) b).toArray rfl rfl 81 (zW 0).toArray (heap_alloc_new wr _) (info_r h64) (by simp [rW, zW, h64]) (rW_one _ b) (rW (i : Int) b).toArray (NB.splice_all _ _ (by simp [rW, zW, h64])) ?_; intro w2 hg2 hr2 hs2))
          have B2 : Below wr.heap.size wr w2 := (((Below.refl wr.heap.size wr).alloc (Nat.le_refl _) _).grown hg2 (by simp) (by rintro k hk; cases hk; exact Nat.le_refl _))
          have B3 : Below wr.heap.size wr w2.drew := ⟨B2.os, B2.tape, B2.output, B2.size, B2.block⟩
          have hr3 : w2.drew.heap[wr.heap.size]? = some (.cells (rW (i : Int) b).toArray 81 (0, 0)) := hr2
          refine NB.wp_region_t [9] (by kernel_rfl) ?_
          generalize w2.drew = w3 at *
          have hd3 := hdk.below B3
          have q0 := hd3.cell 0 _ rfl
          have q1 : w3.cell? ⟨wr.heap.size, 0, none⟩ = some (.int .i64 (i : Int)) := by rw [cell_of_row _ _ _ _ _ _ hr3]; rfl
          have q2 : (rW (i : Int) b).toArray.extract 1 (1 + 64) = (b.map NB.u8v).toArray := by
            apply Array.ext'
            simp only [rW, List.extract_toArray, List.extract_eq_take_drop, List.drop_succ_cons, List.drop_zero]
            exact List.take_of_length_le (by simp [h64])
          have hq2 := Go.Lib.hid q2; clear q2
          have hil' : (i : Int) < ((midD D1 k).l.length : Int) := by omega
          have hn3 := hd3.n
          have hl3 := hd3.hl
          have hl3' := Go.Lib.hid hl3; clear hl3
          have hset := Go.Lib.hid (NB.flatL_set hd3.l64 i hil b h64)
          have hlen : i * 64 + (b.map NB.u8v).toArray.size ≤ (NB.flatL (midD D1 k).l).toArray.size := by
            have := NB.flatL_len hd3.l64
            simp only [List.size_toArray, List.length_map, h64, this]
            omega
          have HL := Go.Lib.hid hlen; clear hlen
          refine NB.t_p 0 rfl (by kernel_rfl) (fun K hK => ?_); go_simp; refine hK _ ?_; clear hK K
          refine NB.t_p 1 rfl (by kernel_rfl) (fun K hK => ?_); go_simp; refine hK _ ?_; clear hK K
          refine NB.t_p 2 rfl (by kernel_rfl) (fun K hK => ?_); go_simp; refine hK _ ?_; clear hK K
          refine NB.t_r 3 [8, 9] rfl (by kernel_rfl) (by kernel_rfl) rfl _ (fun w' hw' => NB.run_op_load rfl rfl Try.underlying53 rfl q0 hw') (fun K hK => ?_); go_simp; refine hK _ ?_; clear hK K
          refine NB.t_p 4 rfl (by kernel_rfl) (fun K hK => ?_); go_simp; refine hK _ ?_; clear hK K
          refine NB.t_r 5 [8, 9] rfl (by kernel_rfl) (by kernel_rfl) rfl _ (fun w' hw' => NB.run_op_load rfl rfl Try.underlying3 rfl q1 hw') (fun K hK => ?_); go_simp; refine hK _ ?_; clear hK K
          refine NB.t_p 6 rfl (by kernel_rfl) (fun K hK => ?_); go_simp; refine hK _ ?_; clear hK K
          refine NB.t_r 7 [8, 9] rfl (by kernel_rfl) (by kernel_rfl) rfl _ (fun w' hw' => NB.run_op_load_agg rfl rfl Try.underlying79 rfl 81 (rW (i : Int) b).toArray (0, 0) hr3 (m := 64) (by kernel_rfl) (by simp [rW, h64]) (b.map NB.u8v).toArray hq2.out hw') (fun K hK => ?_); go_simp; refine hK _ ?_; clear hK K
          refine NB.t_p 8 rfl (by kernel_rfl) (fun K hK => ?_); go_simp; refine hK _ ?_; clear hK K
          refine NB.t_w 9 rfl (by kernel_rfl) (by kernel_rfl) rfl (fun Q' hK => ?_)
          refine NB.wpList_store_agg_any rfl 79 (.tmp 34) (.tmp 33) rfl rfl bl (i * 64) (b.map NB.u8v).toArray ?_ rfl 79 (NB.flatL (midD D1 k).l).toArray hl3'.out (info_b h64) HL.out (NB.u8v_one b) _ hset.out ?_
          · rfl
          intro w4 hg4 hr4 hs4
          refine hK _ _ ?_
          clear hK Q'
          refine NB.t_end (by kernel_rfl) ?_
          have hd4 := hd3.laid i b h64 hg4 hr4
          rw [← midD_succ D1 k i b HWK.out] at hd4
          have hk4 : Kp (footD p bl vW) w' w4 := (hkk.trans_below B3 hkk.size).grown hg4 (fun k e => .inl (.inr (.inl (by cases e; rfl))))
          go_wp2_with (fail)
          go_roundw
          case rel => exact ⟨k + 1, by omega, by go_num, hd4, hk4⟩
          case measure => simp [intOf]; omega
        · obtain rfl : k = D.waits.length := by omega
          have hp := hdk.hp
          have c1 : wr.cell? ⟨p, 1, none⟩ = some vW := hdk.cell 1 _ rfl
          have f1 := hdk.free 1
          have hs := hdk.sure 1 rfl
          go_wp2_with (fail)
          go_ret
          refine ⟨rfl, .slice none 0 0, ?_, hkk.setCell (.inl (.inl rfl)) _, fun k hk => nomatch hk⟩
          rw [hDw]
          exact hs
end Go.Proofs.Ytjfidhjnbcmhfaa
namespace Go.Proofs.Ytjfidhjnbcmhfaa
open Go.RowKit
open Go.NB (Rd Dk Kp footD)

/-- Bytes and an error, in new memory. -/
def ReadD (w : World) (r : List UInt8 × Int) (e : Ending) (w' : World) : Prop :=
  ∃ a c, e = .returned (.tuple #[.slice a r.1.length c, .int .i64 r.2]) ∧ NB.OwnB w' w.heap.size 5 (.slice a r.1.length c) r.1 ∧ Below w.heap.size w w'

theorem readD_err (w : World) (x : Int) : ReadD w ([], x) (.returned (.tuple #[.slice none 0 0, .int .i64 x])) w :=
  ⟨none, 0, rfl, World.ownsRow_nil _ _ _ _, Below.refl _ _⟩

set_option maxHeartbeats 400000 in
theorem read_nil (w : World) (i : Int) : Calls Try.prog 50 #[.pointer none, .int .i64 i] w (ReadD w ([], 1)) := by
  go_enter Try.func50, Try.ntmps50
  go_wp2_with (go_at_call 66; refine (at_nil _ _).mono ?_; rintro e w' ⟨rfl, rfl⟩)
  go_ret2
  exact readD_err _ _

/-- A block's row of cells. -/
def zB : List Value := List.replicate 64 (.int .u8 0)
theorem zero_b (w : World) : (zeroValue 79).run Try.prog w = .ok (.agg zB.toArray) w := by
  have hi : (Try.prog.info? 79).bind (·.zero) = some (.agg zB.toArray) := by kernel_rfl
  cases hq : Try.prog.info? 79 with
  | none => rw [hq] at hi; cases hi
  | some i =>
    rw [hq] at hi
    have hz : i.zero = some (.agg zB.toArray) := hi
    simp [zeroValue, typeInfo, hq, hz]

theorem rW_tail (i : Nat) (b : List UInt8) (h64 : b.length = 64) : (rW (i : Int) b).toArray.extract 1 (1 + 64) = (b.map NB.u8v).toArray := by
  apply Array.ext'
  simp only [rW, List.extract_toArray, List.extract_eq_take_drop, List.drop_succ_cons, List.drop_zero]
  exact List.take_of_length_le (by simp [h64])

theorem grown_old {w w' : World} {G : Nat} {o o' : Obj} (h : w.heap[G]? = some o) (hg : (w.alloc o').grownBy w' (some w.heap.size)) : w'.heap[G]? = some o := by
  have hlt := (Array.getElem?_eq_some_iff.1 h).1
  rw [hg.block G (by simp; omega) (fun e => by cases e; omega), ← h]
  exact Below.heap_alloc w o' G hlt
theorem below_size {w w' : World} {G : Nat} {o o' : Obj} (h : w.heap[G]? = some o) (hg : (w.alloc o').grownBy w' (some w.heap.size)) : G < w'.heap.size := (Array.getElem?_eq_some_iff.1 (grown_old h hg)).1
theorem below_grown {w0 w w' : World} {G : Nat} {o o' : Obj} (h : w.heap[G]? = some o) (hB : Below G w0 w) (hg : (w.alloc o').grownBy w' (some w.heap.size)) : Below G w0 w' := by
  have hlt := (Array.getElem?_eq_some_iff.1 h).1
  exact (hB.alloc (by omega) _).grown hg (by simp; omega) (by rintro k hk; cases hk; omega)

theorem see_succ (ws : List (Nat × List UInt8)) (b0 : List UInt8) (q k i : Nat) (b : List UInt8) (h : ws[k]? = some (i, b)) :
    Dk.see b0 (ws.take (k + 1)) q = if i = q then b else Dk.see b0 (ws.take k) q := by
  obtain ⟨hk, e⟩ := List.getElem?_eq_some_iff.1 h
  unfold Dk.see
  rw [List.take_succ_eq_append_getElem hk, e, List.foldl_append]
  rfl

set_option maxHeartbeats 1000000 in
theorem read_any (w : World) (base p bl : Nat) (vW : Value) (D : Dk) (i : Int) (h : IsD w base p bl vW D) (hwn : D.waits.length ≤ 1000000) :
    Calls Try.prog 50 #[.pointer (some ⟨p, 0, none⟩), .int .i64 i] w (ReadD w (D.read i)) := by
  by_cases h1 : D.at_ i = 0
  · obtain ⟨hi0, hi1⟩ := NB.at_zero h1
    obtain ⟨q, rfl⟩ : ∃ q : Nat, i = q := ⟨i.toNat, by omega⟩
    have hq : D.read q = (Dk.see (D.l.getD q []) (D.waits.take D.waits.length) q, 0) := by simp [Dk.read, h1]
    rw [hq]
    have hql : q < D.l.length := by omega
    have hn := h.n
    have hl := h.hl
    have h64 : (D.l.getD q []).length = 64 := by
      rw [List.getD, List.getElem?_eq_getElem hql]; exact h.l64 _ (List.getElem_mem hql)
    have hat := NB.flatL_at h.l64 q hql
    have hlen : q * 64 + 64 ≤ (NB.flatL D.l).toArray.size := by
      have := NB.flatL_len h.l64
      simp only [List.size_toArray, this]
      omega
    generalize D.l.getD q [] = b0 at *
    have HL := Go.Lib.hid hl; have HAT := Go.Lib.hid hat; have HLEN := Go.Lib.hid hlen
    clear hl hat hlen hq
    have c0 := h.cell 0 _ rfl
    obtain ⟨a0, cp0, hv0, hr0, _⟩ := NB.rd_of_own h.hw
    have hb0 := Rd.bound hr0
    have kz := zero_w
    have kb := zero_b
    have hB0 : (b0.map NB.u8v).length = 64 := by simpa using h64
    go_enter Try.func50, Try.ntmps50
    go_wp2_with (first
      | (go_at_call 66; refine (at_any _ _ _ _ _ _ _ h).mono ?_; rw [h1]; rintro e w' ⟨rfl, e2⟩; subst w')
      | (refine NB.wpList_load_agg rfl 79 (.tmp 21) rfl bl (q * 64) 64 rfl 79 (NB.flatL D.l).toArray (0, 0) _ HL.out Try.underlying79 rfl (by kernel_rfl) HLEN.out (b0.map NB.u8v).toArray HAT.out ?_)
      | (refine NB.wpList_store_agg_any rfl 79 (.tmp 7) (.tmp 22) rfl rfl w.heap.size 0 (b0.map NB.u8v).toArray rfl rfl 79 zB.toArray (heap_alloc_new w _) (info_b h64) (by simp [zB, h64]) (NB.u8v_one b0) (b0.map NB.u8v).toArray (NB.splice_all _ _ (by simp [zB, h64])) ?_; intro w2 hg2 hr2 hs2; have c1 : w2.cell? ⟨p, 1, none⟩ = some (.slice a0 D.waits.length cp0) := by rw [← hv0]; exact (h.below (((Below.refl _ w).alloc (Nat.le_refl _) _).grown hg2 (by simp) (by rintro k hk; cases hk; exact Nat.le_refl _))).cell 1 _ rfl))
    have B2 : Below w.heap.size w w2 := (((Below.refl _ w).alloc (Nat.le_refl _) _).grown hg2 (by simp) (by rintro k hk; cases hk; exact Nat.le_refl _))
    generalize hG : w.heap.size = G at *
    have HG0 := Go.Lib.hid hG; clear hG
    have hG2 : w2.heap.size = G + 1 := by rw [hs2]; simp [HG0.out]
    clear hg2 hs2
    go_loopw [28] (fun i wr => ∃ k : Nat, k ≤ D.waits.length ∧ i = .int .i64 k ∧ Below G w wr ∧ ∃ b : List UInt8, b = Dk.see b0 (D.waits.take k) q ∧ b.length = 64 ∧ wr.heap[G]? = some (.cells (b.map NB.u8v).toArray 79 (0, 0))) (fun i _ => D.waits.length - (intOf i).toNat)
    case atStart => exact ⟨0, by omega, rfl, B2, b0, rfl, h64, hr2⟩
    case round =>
      clear B2 c1
      obtain ⟨k, hk, rfl, hB, bk, hbk, hbk64, hrk⟩ := hrel
      have HBK := Go.Lib.hid hbk; clear hbk
      by_cases hlt : k < D.waits.length
      · have hdk := h.below (by rw [HG0.out]; exact hB)
        obtain ⟨g, cap, cur, x, b, hv, hcl, hcm, hg, hcs, hex, hwk, hx64, hil⟩ := hdk.wait_at k hlt
        rw [hv0] at hv
        injection hv with e1 e2 e3
        subst e1 e3
        clear e2
        have HEX := Go.Lib.hid hex; have HWK := Go.Lib.hid hwk; have HCS := Go.Lib.hid hcs; have HG := Go.Lib.hid hg
        clear hex hwk hcs hg
        have hki : (k : Int) < (D.waits.length : Int) := by omega
        have HRK := Go.Lib.hid hrk; clear hrk
        by_cases hxq : x = q
        · subst x
          go_wp2_with (first
            | (refine NB.wpList_load_agg rfl 81 (.tmp 30) rfl g (k * 65) 65 ?hx 81 cur (0, 0) _ HG.out Try.underlying81 rfl (by kernel_rfl) HCS.out (rW (q : Int) b).toArray HEX.out ?_; case hx => simp [Act.eval]; try omega)
            | (refine NB.wpList_store_agg_any rfl 81 (.tmp 9) (.tmp 31) rfl rfl wr.heap.size 0 (rW (q : Int) b).toArray rfl rfl 81 (zW 0).toArray (heap_alloc_new wr _) (info_r hx64) (by simp [rW, zW, hx64]) (rW_one _ b) (rW (q : Int) b).toArray (NB.splice_all _ _ (by simp [rW, zW, hx64])) ?_; intro w3 hg3 hr3 hs3; have q1 : w3.cell? ⟨wr.heap.size, 0, none⟩ = some (.int .i64 (q : Int)) := by rw [cell_of_row _ _ _ _ _ _ hr3]; rfl)
            | (refine NB.wpList_load_agg rfl 79 (.tmp 36) rfl wr.heap.size 1 64 rfl 81 (rW (q : Int) b).toArray (0, 0) _ hr3 Try.underlying79 rfl (by kernel_rfl) (by simp [rW, hx64]) (b.map NB.u8v).toArray (rW_tail q b hx64) ?_)
            | (refine NB.wpList_store_agg_any rfl 79 (.tmp 7) (.tmp 37) rfl rfl G 0 (b.map NB.u8v).toArray rfl rfl 79 (bk.map NB.u8v).toArray (grown_old HRK.out hg3) (info_b hx64) (by simp [hbk64, hx64]) (NB.u8v_one b) (b.map NB.u8v).toArray (NB.splice_all _ _ (by simp [hbk64, hx64])) ?_; intro w4 hg4 hr4 hs4))
          go_roundw
          case rel => exact ⟨k + 1, by omega, by go_num, (below_grown HRK.out hB hg3).grown hg4 (by have := below_size HRK.out hg3; omega) (by rintro k hk; cases hk; exact Nat.le_refl _), b, by rw [see_succ D.waits b0 q k q b HWK.out, if_pos rfl], hx64, hr4⟩
          case measure => simp [intOf]; omega
        · have hxe : ((x : Int) == (q : Int)) = false := by simp; omega
          go_wp2_with (first
            | (refine NB.wpList_load_agg rfl 81 (.tmp 30) rfl g (k * 65) 65 ?hx 81 cur (0, 0) _ HG.out Try.underlying81 rfl (by kernel_rfl) HCS.out (rW (x : Int) b).toArray HEX.out ?_; case hx => simp [Act.eval]; try omega)
            | (refine NB.wpList_store_agg_any rfl 81 (.tmp 9) (.tmp 31) rfl rfl wr.heap.size 0 (rW (x : Int) b).toArray rfl rfl 81 (zW 0).toArray (heap_alloc_new wr _) (info_r hx64) (by simp [rW, zW, hx64]) (rW_one _ b) (rW (x : Int) b).toArray (NB.splice_all _ _ (by simp [rW, zW, hx64])) ?_; intro w3 hg3 hr3 hs3; have q1 : w3.cell? ⟨wr.heap.size, 0, none⟩ = some (.int .i64 (x : Int)) := by rw [cell_of_row _ _ _ _ _ _ hr3]; rfl))
          go_roundw
          case rel => exact ⟨k + 1, by omega, by go_num, below_grown HRK.out hB hg3, bk, by rw [see_succ D.waits b0 q k x b HWK.out, if_neg hxq]; exact HBK.out, hbk64, grown_old HRK.out hg3⟩
          case measure => simp [intOf]; omega
      · obtain rfl : k = D.waits.length := by omega
        have hrd := NB.rdB_row hrk hbk64 (by unfold maxLen; omega)
        go_wp2_with (first
          | (go_at_call 44; refine (clone_any _ _ _ _ _ hrd (by omega)).mono ?_; rintro e w5 ⟨a5, c5, rfl, ho5, hb5⟩))
        go_ret2
        rw [← HBK.out]
        have hsz := hB.size
        exact ⟨a5, c5, by rw [show (bk, (0 : Int)).1.length = 64 from hbk64]; rfl, NB.own_mono ho5 hsz, (show Below w.heap.size w wr by rw [HG0.out]; exact hB).trans (hb5.mono hsz)⟩
  · have hq : D.read i = ([], D.at_ i) := by simp [Dk.read, h1]
    have hne : (D.at_ i != 0) = true := by simp [h1]
    rw [hq]
    go_enter Try.func50, Try.ntmps50
    go_wp2_with (first
      | (go_at_call 66; refine (at_any _ _ _ _ _ _ _ h).mono ?_; rintro e w' ⟨rfl, rfl⟩))
    go_ret2
    exact readD_err _ _
end Go.Proofs.Ytjfidhjnbcmhfaa
namespace Go.Proofs.Ytjfidhjnbcmhfaa
open Go.RowKit
open Go.NB (Rd Dk Kp footD)

set_option maxHeartbeats 400000 in
theorem crash_nil (w : World) (v : Value) : Calls Try.prog 17 #[.pointer none, v] w fun e w' => e = .returned (.tuple #[]) ∧ w' = w := by
  go_enter Try.func17, Try.ntmps17
  go_wp2
  refine bodyPost_ret (results_none rfl _ _ _) rfl ?_
  exact ⟨rfl, rfl⟩

theorem mod65 (y : UInt8) : (wrap64 (y.toNat : Int)).tmod 65 = ((y.toNat % 65 : Nat) : Int) := by
  have h := y.toNat_lt
  have e : wrap64 (y.toNat : Int) = (y.toNat : Int) := by unfold wrap64; omega
  rw [e, Int.tmod_eq_emod_of_nonneg (by omega)]
  omega

/-- What a crash leaves. -/
def CrashedD (w : World) (base p bl : Nat) (vW : Value) (D' : Dk) (e : Ending) (w' : World) : Prop :=
  e = .returned (.tuple #[]) ∧ ∃ vW', IsD w' base p bl vW' D' ∧ Kp (footD p bl vW) w w' ∧ ∀ k, vW'.ownBlock = some k → vW.ownBlock = some k

/-- Behind so many of the writes. -/
def torn (D : Dk) (pick : List UInt8) (k : Nat) : Dk := { D with l := Dk.tears D.l (D.waits.take k) pick }

theorem torn_cell {w : World} {g x m : Nat} {b : List UInt8} {t : TypeId} (h : w.heap[g]? = some (.cells (rW (x : Int) b).toArray t (0, 0))) (j : Nat) (v : Value) (hj : ((b.take m).map NB.u8v)[j]? = some v) : w.cell? ((⟨g, 1, none⟩ : Addr).add j) = some v := by
  rw [NB.addr_add, cell_of_row _ _ _ _ _ _ h]
  simp only [List.getElem?_map, List.getElem?_take] at hj
  split at hj
  · simpa [rW, Nat.add_comm 1 j] using hj
  · simp at hj

theorem new_below {w w' : World} {o : Obj} (hg : (w.alloc o).grownBy w' (some w.heap.size)) : Below w.heap.size w w' :=
  ((Below.refl w.heap.size w).alloc (Nat.le_refl _) _).grown hg (by simp) (by rintro k hk; cases hk; exact Nat.le_refl _)

theorem torn_in (D : Dk) (pick : List UInt8) (k i : Nat) (b : List UInt8) (h : D.waits[k]? = some (i, b)) (hk : k < pick.length) :
    torn D pick (k + 1) = { torn D pick k with l := (torn D pick k).l.set i (b.take ((pick.getD k 0).toNat % 65) ++ ((torn D pick k).l.getD i []).drop ((pick.getD k 0).toNat % 65)) } := by
  unfold torn
  rw [NB.tears_succ _ _ _ _ _ h, if_pos hk]
  rfl
theorem torn_out (D : Dk) (pick : List UInt8) (k i : Nat) (b : List UInt8) (h : D.waits[k]? = some (i, b)) (hk : ¬ k < pick.length) : torn D pick (k + 1) = torn D pick k := by
  unfold torn
  rw [NB.tears_succ _ _ _ _ _ h, if_neg hk]

set_option maxHeartbeats 1000000 in
theorem crash_any (w : World) (base p bl : Nat) (vW : Value) (D : Dk) (a : Option Addr) (n c : Nat) (pick : List UInt8) (h : IsD w base p bl vW D) (hb : NB.RdB w a n c pick) (hF : ∀ k o, a = some ⟨k, o, none⟩ → pick ≠ [] → ¬ footD p bl vW k) (hwn : D.waits.length ≤ 1000000) :
    Calls Try.prog 17 #[.pointer (some ⟨p, 0, none⟩), .slice a n c] w (CrashedD w base p bl vW (D.crash pick)) := by
  have hpn := NB.RdB.size hb
  have hbd := Rd.bound hb
  have hfin : D.crash pick = { l := (torn D pick D.waits.length).l, waits := [], left := -1, down := false } := by simp [Dk.crash, torn]
  rw [hfin]
  clear hfin
  obtain ⟨a0, cp0, hv0, hr0, _⟩ := NB.rd_of_own h.hw
  have hb0 := Rd.bound hr0
  have kz := zero_w
  have c1 : w.cell? ⟨p, 1, none⟩ = some (.slice a0 D.waits.length cp0) := by rw [← hv0]; exact h.cell 1 _ rfl
  go_enter Try.func17, Try.ntmps17
  go_wp2_with (fail)
  go_loopw [14] (fun i wr => ∃ k : Nat, k ≤ D.waits.length ∧ i = .int .i64 k ∧ IsD wr base p bl vW (torn D pick k) ∧ Kp (footD p bl vW) w wr) (fun i _ => D.waits.length - (intOf i).toNat)
  case atStart => exact ⟨0, by omega, rfl, by simpa [torn, Dk.tears] using h, Kp.refl _ _⟩
  case round =>
    clear c1
    obtain ⟨k, hk, rfl, hdk, hkk⟩ := hrel
    by_cases hlt : k < D.waits.length
    · obtain ⟨g, cap, cur, x, b, hv, hcl, hcm, hg, hcs, hex, hwk, hx64, hil⟩ := hdk.wait_at k hlt
      rw [hv0] at hv
      injection hv with e1 e2 e3
      subst e1 e3
      clear e2
      have HEX := Go.Lib.hid hex; have HWK := Go.Lib.hid hwk; have HCS := Go.Lib.hid hcs; have HG := Go.Lib.hid hg
      clear hex hwk hcs hg
      have hki : (k : Int) < (D.waits.length : Int) := by omega
      by_cases hkp : k < n
      · have hkpi : (k : Int) < (n : Int) := by omega
        obtain ⟨pb, po, rfl, hc⟩ := NB.RdB.at (hkk.rdB hb hF) (by omega)
        have hck := hc k hkp
        clear hc
        generalize hy : pick.getD k 0 = y at hck
        have HY := Go.Lib.hid hy; clear hy
        have hm := mod65 y
        have hm64 : y.toNat % 65 ≤ 64 := by omega
        generalize hmm : y.toNat % 65 = m at hm hm64
        have HM := Go.Lib.hid hmm; clear hmm
        have hm64' : (m : Int) ≤ 64 := by omega
        go_wp2_with (first
          | (refine NB.wpList_load_agg rfl 81 (.tmp 17) rfl g (k * 65) 65 ?hx 81 cur (0, 0) _ HG.out Try.underlying81 rfl (by kernel_rfl) HCS.out (rW (x : Int) b).toArray HEX.out ?_; case hx => simp [Act.eval]; try omega)
          | (refine NB.wpList_store_agg_any rfl 81 (.tmp 5) (.tmp 18) rfl rfl wr.heap.size 0 (rW (x : Int) b).toArray rfl rfl 81 (zW 0).toArray (heap_alloc_new wr _) (info_r hx64) (by simp [rW, zW, hx64]) (rW_one _ b) (rW (x : Int) b).toArray (NB.splice_all _ _ (by simp [rW, zW, hx64])) ?_; intro w3 hg3 hr3 hs3; have q3 := ((new_below hg3).cell (World.block_lt_of_cell? _ _ hck)).trans hck))
        have B3 : Below wr.heap.size wr w3.drew := ⟨(new_below hg3).os, (new_below hg3).tape, (new_below hg3).output, (new_below hg3).size, (new_below hg3).block⟩
        have hr4 : w3.drew.heap[wr.heap.size]? = some (.cells (rW (x : Int) b).toArray 81 (0, 0)) := hr3
        clear hg3 hr3 hs3 q3 hck
        refine NB.wp_region_t [12] (by kernel_rfl) ?_
        generalize w3.drew = w4 at *
        have hd4 := hdk.below B3
        have q0 := hd4.cell 0 _ rfl
        have q1 : w4.cell? ⟨wr.heap.size, 0, none⟩ = some (.int .i64 (x : Int)) := by rw [cell_of_row _ _ _ _ _ _ hr4]; rfl
        have hil' : (x : Int) < ((torn D pick k).l.length : Int) := by omega
        have hn4 := hd4.n
        have hl4 := Go.Lib.hid hd4.hl
        have hset := Go.Lib.hid (NB.flatL_tear hd4.l64 x hil (b.take m) (by simp; omega))
        have hlen : x * 64 + ((b.take m).map NB.u8v).length ≤ (NB.flatL (torn D pick k).l).length := by
          have := NB.flatL_len hd4.l64
          simp only [List.length_map, List.length_take, this, hx64]
          omega
        have HL := Go.Lib.hid hlen; clear hlen
        refine NB.t_p 0 rfl (by kernel_rfl) (fun K hK => ?_); go_simp; refine hK _ ?_; clear hK K
        refine NB.t_p 1 rfl (by kernel_rfl) (fun K hK => ?_); go_simp; refine hK _ ?_; clear hK K
        refine NB.t_p 2 rfl (by kernel_rfl) (fun K hK => ?_); go_simp; refine hK _ ?_; clear hK K
        refine NB.t_r 3 [6, 8, 12] rfl (by kernel_rfl) (by kernel_rfl) rfl _ (fun w' hw' => NB.run_op_load rfl rfl Try.underlying53 rfl q0 hw') (fun K hK => ?_); go_simp; refine hK _ ?_; clear hK K
        refine NB.t_p 4 rfl (by kernel_rfl) (fun K hK => ?_); go_simp; refine hK _ ?_; clear hK K
        refine NB.t_r 5 [6, 8, 12] rfl (by kernel_rfl) (by kernel_rfl) rfl _ (fun w' hw' => NB.run_op_load rfl rfl Try.underlying3 rfl q1 hw') (fun K hK => ?_); go_simp; refine hK _ ?_; clear hK K
        refine NB.t_p 6 rfl (by kernel_rfl) (fun K hK => ?_); go_simp; refine hK _ ?_; clear hK K
        refine NB.t_p 7 rfl (by kernel_rfl) (fun K hK => ?_); go_simp; refine hK _ ?_; clear hK K
        refine NB.t_p 8 rfl (by kernel_rfl) (fun K hK => ?_); go_simp; refine hK _ ?_; clear hK K
        refine NB.t_p 9 rfl (by kernel_rfl) (fun K hK => ?_); go_simp; refine hK _ ?_; clear hK K
        refine NB.t_p 10 rfl (by kernel_rfl) (fun K hK => ?_); go_simp; refine hK _ ?_; clear hK K
        refine NB.t_p 11 rfl (by kernel_rfl) (fun K hK => ?_); go_simp; refine hK _ ?_; clear hK K
        refine NB.t_w 12 rfl (by kernel_rfl) (by kernel_rfl) rfl (fun Q' hK => ?_)
        refine NB.wpList_copy_at rfl (.tmp 37) (.tmp 40) 22 22 rfl 5 Try.underlying22 (by kernel_rfl) (some ⟨bl, x * 64, none⟩) (some ⟨wr.heap.size, 1, none⟩) m 64 m 64 rfl rfl bl (x * 64) (NB.flatL (torn D pick k).l) 79 hl4.out ((b.take m).map NB.u8v) (by simp [hx64, hm64]) (fun _ => ⟨rfl, _, rfl, fun j v hj => torn_cell hr4 j v hj⟩) HL.out (NB.u8v_one _) ?_
        intro w5 hr5 hg5
        refine hK _ _ ?_
        clear hK Q'
        refine NB.t_end (by kernel_rfl) ?_
        rw [hset.out] at hr5
        have hbl : ((b.take m) ++ ((torn D pick k).l.getD x []).drop (b.take m).length).length = 64 := by
          have : ((torn D pick k).l.getD x []).length = 64 := by rw [List.getD, List.getElem?_eq_getElem hil]; exact hd4.l64 _ (List.getElem_mem hil)
          simp only [List.length_append, List.length_drop, List.length_take, this, hx64]; omega
        have hd5 := hd4.laid x _ hbl hg5 hr5
        have hk5 : Kp (footD p bl vW) w w5 := (hkk.trans_below B3 hkk.size).grown hg5 (fun k e => .inl (.inr (.inl (by cases e; rfl))))
        have hbt : (b.take m).length = m := by rw [List.length_take, hx64]; omega
        rw [hbt] at hd5
        have htn := torn_in D pick k x b HWK.out (by omega)
        rw [HY.out, HM.out] at htn
        rw [← htn] at hd5
        go_wp2_with (fail)
        go_roundw
        case rel => exact ⟨k + 1, by omega, by go_num, hd5, hk5⟩
        case measure => simp [intOf]; omega
      · go_wp2_with (first
          | (refine NB.wpList_load_agg rfl 81 (.tmp 17) rfl g (k * 65) 65 ?hx 81 cur (0, 0) _ HG.out Try.underlying81 rfl (by kernel_rfl) HCS.out (rW (x : Int) b).toArray HEX.out ?_; case hx => simp [Act.eval]; try omega)
          | (refine NB.wpList_store_agg_any rfl 81 (.tmp 5) (.tmp 18) rfl rfl wr.heap.size 0 (rW (x : Int) b).toArray rfl rfl 81 (zW 0).toArray (heap_alloc_new wr _) (info_r hx64) (by simp [rW, zW, hx64]) (rW_one _ b) (rW (x : Int) b).toArray (NB.splice_all _ _ (by simp [rW, zW, hx64])) ?_; intro w3 hg3 hr3 hs3))
        go_roundw
        case rel => exact ⟨k + 1, by omega, by go_num, by rw [torn_out D pick k x b HWK.out (by omega)]; exact hdk.below (new_below hg3), hkk.trans_below (new_below hg3) hkk.size⟩
        case measure => simp [intOf]; omega
    · obtain rfl : k = D.waits.length := by omega
      have c1 := hdk.cell 1 _ rfl
      have f1 := hdk.free 1
      have c2 := hdk.cell 2 _ rfl
      have f2 := hdk.free 2
      have c3 := hdk.cell 3 _ rfl
      have f3 := hdk.free 3
      have hn := hdk.anew
      go_wp2_with (fail)
      go_end0
      exact ⟨rfl, _, hn, ((hkk.setCell (.inl (.inl rfl)) _).setCell (.inl (.inl rfl)) _).setCell (.inl (.inl rfl)) _, fun k hk => nomatch hk⟩
end Go.Proofs.Ytjfidhjnbcmhfaa
namespace Go.Proofs.Ytjfidhjnbcmhfaa
open Go.RowKit
open Go.NB (Rd Dk Kp footD)

theorem slTD : NB.SlT Try.prog 53 79 (.agg zB.toArray) 64 64 :=
  ⟨Try.underlying53, info_parts (by kernel_rfl), by kernel_rfl, by omega⟩

theorem made_zero (n : Nat) : (madeCells zB.toArray (n * 64)).toList = NB.flatL (List.replicate n (List.replicate 64 0)) := by
  have e1 : NB.flatL (List.replicate n (List.replicate 64 0)) = List.replicate (n * 64) (.int .u8 0) := by
    unfold NB.flatL
    rw [List.flatten_replicate_replicate, List.map_replicate]
    rfl
  have hz : zB.toArray.size = 64 := by simp [zB]
  have e2 : ∀ x : Nat, zB.toArray[x % zB.toArray.size]! = .int .u8 0 := by
    intro x
    have hlt : x % zB.toArray.size < zB.toArray.size := Nat.mod_lt _ (by omega)
    rw [getElem!_pos zB.toArray _ hlt, List.getElem_toArray]
    exact List.getElem_replicate _
  rw [e1]
  unfold madeCells
  simp only [e2]
  simp [List.map_const']

/-- A row that is full is just what it was made of. -/
theorem row_full {w : World} {base : Nat} {e : TypeId} {size g n : Nat} {xs : List Value} (h : w.ownsRow base e size (.slice (some ⟨g, 0, none⟩) n n) n xs) : w.heap[g]? = some (.cells xs.toArray e (0, 0)) := by
  rcases h.2 with ⟨h0, _⟩ | ⟨g', cap, cur, hv, hb, hg, hle, hm, hs, ht⟩
  · cases h0
  · cases hv
    rw [hg]
    have : cur = xs.toArray := by
      apply Array.ext'
      rw [← ht, List.take_of_length_le (by rw [Array.length_toList, hs]; exact Nat.le_refl _)]
    rw [this]

theorem new_bad (w : World) (n : Int) (h : n < 1 ∨ 65536 < n) : Calls Try.prog 9 #[.int .i64 n] w fun e w' => e = .returned (.tuple #[.pointer none, .int .i64 1]) ∧ w' = w := by
  by_cases h1 : n < 1
  · go_enter Try.func9, Try.ntmps9
    go_wp2
    go_ret2
    exact ⟨rfl, rfl⟩
  · have h2 : 65536 < n := by omega
    go_enter Try.func9, Try.ntmps9
    go_wp2
    go_ret2
    exact ⟨rfl, rfl⟩

/-- A new disk. -/
def NewD (w : World) (n : Nat) (e : Ending) (w' : World) : Prop :=
  ∃ p bl, e = .returned (.tuple #[.pointer (some ⟨p, 0, none⟩), .int .i64 0]) ∧ IsD w' w.heap.size p bl (.slice none 0 0) (Dk.fresh n) ∧ Below w.heap.size w w'

set_option maxRecDepth 100000 in
set_option maxHeartbeats 1000000 in
theorem new_any (w : World) (n : Nat) (h1 : 1 ≤ n) (h2 : n ≤ 65536) : Calls Try.prog 9 #[.int .i64 n] w (NewD w n) := by
  obtain ⟨i, hi, hz, hsz, hby⟩ := slTD.hi
  have g1 : ¬ (n : Int) < 1 := by omega
  have g2 : ¬ 65536 < (n : Int) := by omega
  go_enter Try.func9, Try.ntmps9
  go_wp2_with (first
    | (at_make; refine wpList_make_full w rfl (.tmp 10) (.tmp 10) 53 rfl w.heap.size 79 i (.agg zB.toArray) 64 slTD.ht hi hz hsz .i64 .i64 n n n rfl rfl rfl rfl (by rw [hby]; omega) (by unfold maxLen; omega) (Nat.le_refl _) ?_; intro w2 ho2 hg2))
  go_ret2
  have hr2 := row_full ho2
  have hr3 : w2.heap[w.heap.size]? = some (.cells (NB.flatL (List.replicate n (List.replicate 64 0))).toArray 79 (0, 0)) := by
    rw [← made_zero n]; exact hr2
  have hlt := (Array.getElem?_eq_some_iff.1 hr3).1
  have hB : Below w.heap.size w w2 := (Below.refl _ w).grown hg2 (Nat.le_refl _) (by rintro k hk; cases hk)
  refine ⟨w2.heap.size, w.heap.size, rfl, ?_, hB.alloc hB.size _⟩
  exact
    { hp := by rw [heap_alloc_new]; simp [Dk.fresh]
      hl := by rw [Below.heap_alloc _ _ _ hlt]; exact hr3
      hw := World.ownsRow_nil _ _ _ _
      l64 := fun b hb => by have := List.eq_of_mem_replicate hb; subst this; simp
      w64 := fun x hx => nomatch hx
      left := by simp [Dk.fresh]
      n := by simp [Dk.fresh]; omega
      bp := by omega
      bbl := Nat.le_refl _
      ne := by omega
      neW := fun k e => nomatch e }
end Go.Proofs.Ytjfidhjnbcmhfaa
namespace Go.Proofs.Ytjfidhjnbcmhfaa
open Go.RowKit
open Go.NB (Rd Dk Kp footD Stp Off Dis)

def HasD (w : World) (base p : Nat) (F : Nat → Prop) (D : Dk) : Prop := ∃ bl vW, IsD w base p bl vW D ∧ F = footD p bl vW

section
variable {w w' : World} {base p : Nat} {F F' : Nat → Prop} {D : Dk}
theorem HasD.foot (h : HasD w base p F D) (k : Nat) (hk : F k) : base ≤ k ∧ k < w.heap.size := by
  obtain ⟨bl, vW, h, rfl⟩ := h
  exact h.foot_lt k hk
theorem HasD.keep {G : Nat → Prop} (h : HasD w base p F D) (hk : Kp G w w') (hG : Dis F G) : HasD w' base p F D := by
  obtain ⟨bl, vW, h, rfl⟩ := h
  exact ⟨bl, vW, h.keep hk hG, rfl⟩
theorem HasD.below (h : HasD w base p F D) (hb : Below w.heap.size w w') : HasD w' base p F D := h.keep (G := fun _ => False) (Kp.of_below hb) (fun _ _ h => h)
theorem HasD.alloc (h : HasD w base p F D) (o : Obj) : HasD (w.alloc o) base p F D := h.below ((Below.refl _ _).alloc (Nat.le_refl _) o)
theorem HasD.base_le (h : HasD w base p F D) : base ≤ w.heap.size := by
  obtain ⟨bl, vW, h, rfl⟩ := h
  have := h.bp; have := h.lt.1; omega
theorem HasD.low (h : HasD w base p F D) (hs : Stp F F' w w') : Below base w w' := hs.low h.base_le (fun k hk => (h.foot k hk).1)
theorem HasD.l64 (h : HasD w base p F D) : ∀ b ∈ D.l, b.length = 64 := by
  obtain ⟨bl, vW, h, rfl⟩ := h
  exact h.l64
theorem HasD.w64 (h : HasD w base p F D) : ∀ x ∈ D.waits, x.2.length = 64 ∧ x.1 < D.l.length := by
  obtain ⟨bl, vW, h, rfl⟩ := h
  exact h.w64
end

theorem stp_d {w w' : World} {p bl : Nat} {vW vW' : Value} (hk : Kp (footD p bl vW) w w') (hv : ∀ k, vW'.ownBlock = some k → vW.ownBlock = some k ∨ w.heap.size ≤ k) : Stp (footD p bl vW) (footD p bl vW') w w' :=
  ⟨hk, fun k h => by
    rcases h with h | h | h
    · exact .inl (.inl h)
    · exact .inl (.inr (.inl h))
    · rcases hv k h with h | h
      · exact .inl (.inr (.inr h))
      · exact .inr h⟩

/-- What a call that answers an error leaves. -/
def DidD (w : World) (base p : Nat) (F : Nat → Prop) (r : Dk × Int) (e : Ending) (w' : World) : Prop :=
  e = .returned (.int .i64 r.2) ∧ ∃ F', HasD w' base p F' r.1 ∧ Stp F F' w w'
/-- One that answers nothing. -/
def DoneD (w : World) (base p : Nat) (F : Nat → Prop) (D : Dk) (e : Ending) (w' : World) : Prop :=
  e = .returned (.tuple #[]) ∧ ∃ F', HasD w' base p F' D ∧ Stp F F' w w'

theorem dwrite_any (w : World) (base p : Nat) (F : Nat → Prop) (D : Dk) (i : Int) (a : Option Addr) (n c : Nat) (b : List UInt8) (h : HasD w base p F D) (hb : Off F w a n c b) (hwn : D.waits.length ≤ 1000000) :
    Calls Try.prog 59 #[.pointer (some ⟨p, 0, none⟩), .int .i64 i, .slice a n c] w (DidD w base p F (D.write i b)) := by
  have hbase := h.base_le
  obtain ⟨bl, vW, h, rfl⟩ := h
  exact (write_any w base p bl vW D i a n c b h hb.rd (fun k o e hn => hb.nf k o e hn) hwn hbase).mono fun e w' ⟨he, vW', hd, hk, hv⟩ => ⟨he, _, ⟨bl, vW', hd, rfl⟩, stp_d hk hv⟩

theorem dsync_any (w : World) (base p : Nat) (F : Nat → Prop) (D : Dk) (h : HasD w base p F D) (hwn : D.waits.length ≤ 1000000) :
    Calls Try.prog 61 #[.pointer (some ⟨p, 0, none⟩)] w (DidD w base p F D.sync) := by
  obtain ⟨bl, vW, h, rfl⟩ := h
  exact (sync_any w base p bl vW D h hwn).mono fun e w' ⟨he, vW', hd, hk, hv⟩ => ⟨he, _, ⟨bl, vW', hd, rfl⟩, stp_d hk fun k e => .inl (hv k e)⟩

theorem dcrash_any (w : World) (base p : Nat) (F : Nat → Prop) (D : Dk) (a : Option Addr) (n c : Nat) (pick : List UInt8) (h : HasD w base p F D) (hb : Off F w a n c pick) (hwn : D.waits.length ≤ 1000000) :
    Calls Try.prog 17 #[.pointer (some ⟨p, 0, none⟩), .slice a n c] w (DoneD w base p F (D.crash pick)) := by
  obtain ⟨bl, vW, h, rfl⟩ := h
  exact (crash_any w base p bl vW D a n c pick h hb.rd (fun k o e hn => hb.nf k o e hn) hwn).mono fun e w' ⟨he, vW', hd, hk, hv⟩ => ⟨he, _, ⟨bl, vW', hd, rfl⟩, stp_d hk fun k e => .inl (hv k e)⟩

theorem dstop_any (w : World) (base p : Nat) (F : Nat → Prop) (D : Dk) (x : Int) (hx : x ≤ 9223372036854775807) (h : HasD w base p F D) :
    Calls Try.prog 16 #[.pointer (some ⟨p, 0, none⟩), .int .i64 x] w (DoneD w base p F (D.stop x)) := by
  obtain ⟨bl, vW, h, rfl⟩ := h
  exact (stop_any w base p bl vW D x hx h).mono fun e w' ⟨he, hd, hk⟩ => ⟨he, _, ⟨bl, vW, hd, rfl⟩, stp_d hk fun k e => .inl e⟩

theorem dread_any (w : World) (base p : Nat) (F : Nat → Prop) (D : Dk) (i : Int) (h : HasD w base p F D) (hwn : D.waits.length ≤ 1000000) :
    Calls Try.prog 50 #[.pointer (some ⟨p, 0, none⟩), .int .i64 i] w (ReadD w (D.read i)) := by
  obtain ⟨bl, vW, h, rfl⟩ := h
  exact read_any w base p bl vW D i h hwn
theorem dlen_any (w : World) (base p : Nat) (F : Nat → Prop) (D : Dk) (h : HasD w base p F D) :
    Calls Try.prog 34 #[.pointer (some ⟨p, 0, none⟩)] w fun e w' => e = .returned (.int .i64 (D.l.length : Int)) ∧ w' = w := by
  obtain ⟨bl, vW, h, rfl⟩ := h
  exact len_any w base p bl vW D h
/-- A new one. -/
def MadeD (w : World) (n : Nat) (e : Ending) (w' : World) : Prop := ∃ p F, e = .returned (.tuple #[.pointer (some ⟨p, 0, none⟩), .int .i64 0]) ∧ HasD w' w.heap.size p F (Dk.fresh n) ∧ Below w.heap.size w w'
theorem dnew_any (w : World) (n : Nat) (h1 : 1 ≤ n) (h2 : n ≤ 65536) : Calls Try.prog 9 #[.int .i64 n] w (MadeD w n) :=
  (new_any w n h1 h2).mono fun e w' ⟨p, bl, he, hd, hb⟩ => ⟨p, _, he, ⟨bl, _, hd, rfl⟩, hb⟩
theorem off_under {w0 w : World} {base p : Nat} {F : Nat → Prop} {D : Dk} {a : Option Addr} {n c : Nat} {bs : List UInt8} (r0 : NB.RdB w0 a n c bs) (hb : Below w0.heap.size w0 w) (h : HasD w base p F D) (hl : w0.heap.size ≤ base) : Off F w a n c bs :=
  Off.old r0 hb (fun k hk => Nat.le_trans hl (h.foot k hk).1)
theorem bel {B C : Nat} {a b c : World} (h : Below B a b) (k : Below C b c) (hBC : B ≤ C) : Below B a c := h.trans (k.mono hBC)
end Go.Proofs.Ytjfidhjnbcmhfaa
