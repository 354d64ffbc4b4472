/- A replica, in plain lists: what each call does. A replica in memory: its box, its segments, its disk, its table, each apart from the others. A replica's small calls, walked: up, Err, Sealed, Seal. A replica's append, walked. A replica's Read, walked. A replica's Store, walked. -/
import Derived.Test.YtjfidhjnbcmhfaaSgx2
import Derived.Test.YtjfidhjnbcmhfaaDdx
import Derived.Test.YtjfidhjnbcmhfaaEql
namespace Go.Proofs.Ytjfidhjnbcmhfaa
open Go.NB (Dk Ent dknown dat)
open Go.NB.Crc

def sgZ : Sg := ⟨0, 0, 0, [], 0, 0, 0, 0⟩
structure Rp where
  many : Nat
  own : Nat
  l : List Sg
  tab : List Ent
  sealed : Bool
  e : Int
def Rp.seg (R : Rp) (i : Nat) : Sg := R.l.getD i sgZ
def Rp.put (R : Rp) (i : Nat) (S : Sg) : Rp := { R with l := R.l.set i S }
/-- Bytes appended to a segment, for good: the disk, the replica, the place, the error. -/
def apnM (D : Dk) (R : Rp) (i : Nat) (b : List UInt8) : Dk × Rp × Nat × Int :=
  if (appM D (R.seg i) b).2.2.2 = 21 then ((appM D (R.seg i) b).1, R.put i (appM D (R.seg i) b).2.1, 0, 21)
  else if (appM D (R.seg i) b).2.2.2 ≠ 0 then ((appM D (R.seg i) b).1, { R.put i (appM D (R.seg i) b).2.1 with e := (appM D (R.seg i) b).2.2.2 }, 0, (appM D (R.seg i) b).2.2.2)
  else if (synM (appM D (R.seg i) b).1 (appM D (R.seg i) b).2.1).2.2 ≠ 0 then
    ((synM (appM D (R.seg i) b).1 (appM D (R.seg i) b).2.1).1, { R.put i (synM (appM D (R.seg i) b).1 (appM D (R.seg i) b).2.1).2.1 with e := (synM (appM D (R.seg i) b).1 (appM D (R.seg i) b).2.1).2.2 }, 0, (synM (appM D (R.seg i) b).1 (appM D (R.seg i) b).2.1).2.2)
  else ((synM (appM D (R.seg i) b).1 (appM D (R.seg i) b).2.1).1, R.put i (synM (appM D (R.seg i) b).1 (appM D (R.seg i) b).2.1).2.1, (appM D (R.seg i) b).2.2.1, 0)
/-- The disk, the replica, the place, whether it is new, the error. -/
def addM (D : Dk) (R : Rp) (x : En) : Dk × Rp × Int × Bool × Int :=
  if R.e ≠ 0 then (D, R, 0, false, R.e)
  else if (putM x).2 ≠ 0 then (D, R, 0, false, (putM x).2)
  else if dknown R.tab x.1 x.2.1 then (D, R, dat R.tab x.1 x.2.1, false, 0)
  else if R.sealed then (D, R, 0, false, 34)
  else if (apnM D R R.own (putM x).1).2.2.2 ≠ 0 then ((apnM D R R.own (putM x).1).1, (apnM D R R.own (putM x).1).2.1, 0, false, (apnM D R R.own (putM x).1).2.2.2)
  else ((apnM D R R.own (putM x).1).1, { (apnM D R R.own (putM x).1).2.1 with tab := (dnote R.tab x.1 x.2.1 ((apnM D R R.own (putM x).1).2.2.1 : Int)).1 }, ((apnM D R R.own (putM x).1).2.2.1 : Int), true, 0)
def storeM (D : Dk) (R : Rp) (seg at_ : Int) (x : En) : Dk × Rp × Int :=
  if R.e ≠ 0 then (D, R, R.e)
  else if seg < 0 ∨ (R.many : Int) ≤ seg ∨ seg = R.own ∨ at_ < 0 then (D, R, 1)
  else if (putM x).2 ≠ 0 then (D, R, (putM x).2)
  else if ((R.seg seg.toNat).l.length : Int) < at_ then (D, R, 36)
  else if at_ = ((R.seg seg.toNat).l.length : Int) then ((apnM D R seg.toNat (putM x).1).1, (apnM D R seg.toNat (putM x).1).2.1, (apnM D R seg.toNat (putM x).1).2.2.2)
  else if (redM (R.seg seg.toNat) at_).1 ≠ (putM x).1 then (D, R, 33)
  else (D, R, 0)
def rreadM (R : Rp) (seg at_ : Int) : En × Int :=
  if seg < 0 ∨ (R.many : Int) ≤ seg then ((0, 0, []), 1)
  else if (redM (R.seg seg.toNat) at_).2 ≠ 0 then ((0, 0, []), (redM (R.seg seg.toNat) at_).2)
  else getM (redM (R.seg seg.toNat) at_).1
/-- Looking through a segment's records from the at-th on, n of them: the table, the error. -/
def lookM (S : Sg) (mine : Bool) : Nat → Nat → List Ent → List Ent × Int
  | 0, _, t => (t, 0)
  | n + 1, at_, t =>
    if (getM (S.l.getD at_ [])).2 ≠ 0 then (t, 11)
    else lookM S mine n (at_ + 1) (if mine then (dnote t (getM (S.l.getD at_ [])).1.1 (getM (S.l.getD at_ [])).1.2.1 (at_ : Int)).1 else t)
/-- Opening the segments from the i-th on, k of them. -/
def opnM (D : Dk) (frm n : Int) (own : Nat) : Nat → Nat → Rp → Rp × Int
  | 0, _, R => (R, 0)
  | k + 1, i, R =>
    if openE D (frm + i * n) n ≠ 0 then (R, openE D (frm + i * n) n)
    else if (lookM (openS D (frm + i * n) n) (decide (i = own)) (openS D (frm + i * n) n).l.length 0 R.tab).2 ≠ 0 then (R, (lookM (openS D (frm + i * n) n) (decide (i = own)) (openS D (frm + i * n) n).l.length 0 R.tab).2)
    else opnM D frm n own k (i + 1) { R with l := R.l ++ [openS D (frm + i * n) n], tab := (lookM (openS D (frm + i * n) n) (decide (i = own)) (openS D (frm + i * n) n).l.length 0 R.tab).1 }
def ropnM (D : Dk) (frm n many own : Int) : Rp × Int :=
  if many < 1 ∨ 4 < many ∨ own < 0 ∨ many ≤ own then (⟨0, 0, [], [], false, 0⟩, 1)
  else opnM D frm n own.toNat many.toNat 0 ⟨many.toNat, own.toNat, [], [], false, 0⟩
end Go.Proofs.Ytjfidhjnbcmhfaa
namespace Go.Proofs.Ytjfidhjnbcmhfaa
open Go.RowKit
open Go.NB (Rd Dk Kp Stp Off Dis val I64 Rw oneB dB rw_new)

def qv (R : Rp) (q : Nat → Nat) (i : Nat) : Value := if i < R.l.length then .pointer (some ⟨q i, 0, none⟩) else .pointer none
def rpL (R : Rp) (q : Nat → Nat) (t : Nat) : List Value := [qv R q 0, qv R q 1, qv R q 2, qv R q 3, .int .i64 (R.many : Int), .int .i64 (R.own : Int), .pointer (some ⟨t, 0, none⟩), .bool R.sealed, .int .i64 R.e]
/-- 'X': blocks that are somebody else's. -/
structure IsRp (X : Nat → Prop) (w0 w : World) (r p t : Nat) (q : Nat → Nat) (F : Nat → Nat → Prop) (G Ft : Nat → Prop) (D : Dk) (R : Rp) : Prop where
  box : Rw w r (rpL R q t) 62
  len : R.l.length ≤ R.many
  many : 1 ≤ R.many ∧ R.many ≤ 4
  own : R.own < R.many
  seg : ∀ i, i < R.l.length → ∃ base, w0.heap.size ≤ base ∧ HasSg w base (q i) p (F i) (R.seg i)
  dsk : ∃ base, w0.heap.size ≤ base ∧ HasD w base p G D
  tab : ∃ base, w0.heap.size ≤ base ∧ HasT w base t Ft R.tab
  fg : ∀ i, i < R.l.length → Dis (F i) G
  ff : ∀ i j, i < R.l.length → j < R.l.length → i ≠ j → Dis (F i) (F j)
  ft : ∀ i, i < R.l.length → Dis (F i) Ft
  gt : Dis G Ft
  off : ∀ k, (k = r ∨ X k) → (∀ i, i < R.l.length → ¬ F i k) ∧ ¬ G k ∧ ¬ Ft k
  rx : ¬ X r
  xlt : ∀ k, X k → k < w.heap.size
  low : Below w0.heap.size w0 w
  rlow : w0.heap.size ≤ r
def HasRp (X : Nat → Prop) (w0 w : World) (r p : Nat) (D : Dk) (R : Rp) : Prop := ∃ t q F G Ft, IsRp X w0 w r p t q F G Ft D R
/-- All that is not the i-th segment's or the disk's. -/
def restR (X : Nat → Prop) (r : Nat) (F : Nat → Nat → Prop) (Ft : Nat → Prop) (m i : Nat) : Nat → Prop := fun k => k = r ∨ X k ∨ Ft k ∨ ∃ j, j < m ∧ j ≠ i ∧ F j k
section
variable {X : Nat → Prop} {w0 w w' : World} {r p t : Nat} {q : Nat → Nat} {F : Nat → Nat → Prop} {G Ft : Nat → Prop} {D D' : Dk} {R : Rp}
theorem IsRp.sdh (h : IsRp X w0 w r p t q F G Ft D R) (i : Nat) (hi : i < R.l.length) : SdH (restR X r F Ft R.l.length i) w0 w (q i) p D (R.seg i) := by
  obtain ⟨base, hb, hs⟩ := h.seg i hi
  obtain ⟨based, hbd, hd⟩ := h.dsk
  obtain ⟨baset, hbt, ht⟩ := h.tab
  refine ⟨base, based, F i, G, hs, hd, h.fg i hi, hb, hbd, h.low, fun k hk => ?_⟩
  rcases hk with hk | hk | hk | ⟨j, hj, hne, hk⟩
  · subst hk; exact ⟨h.box.lt, (h.off k (.inl rfl)).1 i hi, (h.off k (.inl rfl)).2.1⟩
  · exact ⟨h.xlt k hk, (h.off k (.inr hk)).1 i hi, (h.off k (.inr hk)).2.1⟩
  · exact ⟨(ht.foot k hk).2, fun hf => h.ft i hi k hf hk, fun hg => h.gt k hg hk⟩
  · obtain ⟨bj, _, hsj⟩ := h.seg j hj
    exact ⟨(hsj.foot k hk).2, fun hf => h.ff i j hi hj (Ne.symm hne) k hf hk, fun hg => h.fg j hj k hk hg⟩
theorem put_seg (R : Rp) (i j : Nat) (S : Sg) (hi : i < R.l.length) : (R.put i S).seg j = if j = i then S else R.seg j := by
  unfold Rp.put Rp.seg
  simp only [List.getD_eq_getElem?_getD, List.getElem?_set]
  split
  · rename_i h; subst h; simp [hi]
  · rename_i h; rw [if_neg (fun e => h e.symm)]
/-- The i-th segment and the disk have turned. -/
theorem IsRp.put (h : IsRp X w0 w r p t q F G Ft D R) (i : Nat) (hi : i < R.l.length) {S' : Sg} (hs : SdH (restR X r F Ft R.l.length i) w0 w' (q i) p D' S') (hk : Kp (fun k => ¬ restR X r F Ft R.l.length i k) w w') : HasRp X w0 w' r p D' (R.put i S') := by
  obtain ⟨base, based, F', G', h1, h2, h3, h4, h5, h6, h7⟩ := hs
  have hpl : (R.put i S').l.length = R.l.length := List.length_set
  have hsg := fun j => put_seg R i j S' hi
  refine ⟨t, q, fun j => if j = i then F' else F j, G', Ft, ?_⟩
  have keepO : ∀ j, j < R.l.length → j ≠ i → ∃ base, w0.heap.size ≤ base ∧ HasSg w' base (q j) p (F j) (R.seg j) := fun j hj hne => by
    obtain ⟨bj, hbj, hsj⟩ := h.seg j hj
    exact ⟨bj, hbj, hsj.keep hk (fun k hf hn => hn (.inr (.inr (.inr ⟨j, hj, hne, hf⟩))))⟩
  obtain ⟨baset, hbt, ht⟩ := h.tab
  refine ⟨(by unfold rpL qv; rw [hpl]; exact h.box.keep hk (fun hn => hn (.inl rfl))), by rw [hpl]; exact h.len, h.many, h.own, fun j hj => ?_, ⟨based, h5, h2⟩, ⟨baset, hbt, ht.keep hk (fun k hf hn => hn (.inr (.inr (.inl hf))))⟩, fun j hj => ?_, fun j l hj hl hne => ?_, fun j hj => ?_, fun k hg hf => ?_, fun k hkx => ?_, h.rx, fun k hx => ?_, h6, h.rlow⟩
  · rw [hpl] at hj
    rw [hsg j]
    by_cases e : j = i
    · subst e; simp only [if_true]; exact ⟨base, h4, h1⟩
    · simp only [if_neg e]; exact keepO j hj e
  · rw [hpl] at hj
    by_cases e : j = i
    · simp only [if_pos e]; exact h3
    · simp only [if_neg e]; exact fun k hf hg => (h7 k (.inr (.inr (.inr ⟨j, hj, e, hf⟩)))).2.2 hg
  · rw [hpl] at hj hl
    by_cases e : j = i
    · have el : l ≠ i := fun e2 => hne (e.trans e2.symm)
      simp only [if_pos e, if_neg el]
      exact fun k hf hg => (h7 k (.inr (.inr (.inr ⟨l, hl, el, hg⟩)))).2.1 hf
    · by_cases el : l = i
      · simp only [if_pos el, if_neg e]
        exact fun k hf hg => (h7 k (.inr (.inr (.inr ⟨j, hj, e, hf⟩)))).2.1 hg
      · simp only [if_neg el, if_neg e]; exact h.ff j l hj hl hne
  · rw [hpl] at hj
    by_cases e : j = i
    · simp only [if_pos e]; exact fun k hf hg => (h7 k (.inr (.inr (.inl hg)))).2.1 hf
    · simp only [if_neg e]; exact h.ft j hj
  · exact (h7 k (.inr (.inr (.inl hf)))).2.2 hg
  · have hr : restR X r F Ft R.l.length i k := hkx.elim (fun e => .inl e) (fun e => .inr (.inl e))
    refine ⟨fun j hj => ?_, (h7 k hr).2.2, (h.off k hkx).2.2⟩
    rw [hpl] at hj
    by_cases e : j = i
    · simp only [if_pos e]; exact (h7 k hr).2.1
    · simp only [if_neg e]; exact (h.off k hkx).1 j hj
  · exact (h7 k (.inr (.inl hx))).1
theorem IsRp.below (h : IsRp X w0 w r p t q F G Ft D R) (hb : Below w.heap.size w w') : IsRp X w0 w' r p t q F G Ft D R :=
  { h with
    box := h.box.below hb
    seg := fun i hi => by obtain ⟨base, h1, h2⟩ := h.seg i hi; exact ⟨base, h1, h2.below hb⟩
    dsk := by obtain ⟨base, h1, h2⟩ := h.dsk; exact ⟨base, h1, h2.below hb⟩
    tab := by obtain ⟨base, h1, h2⟩ := h.tab; exact ⟨base, h1, h2.below hb⟩
    xlt := fun k hk => Nat.lt_of_lt_of_le (h.xlt k hk) hb.size
    low := bel h.low hb h.low.size }
theorem HasRp.below (h : HasRp X w0 w r p D R) (hb : Below w.heap.size w w') : HasRp X w0 w' r p D R := by
  obtain ⟨t, q, F, G, Ft, h⟩ := h
  exact ⟨t, q, F, G, Ft, h.below hb⟩
/-- A cell of its box is laid: not one that tells of its segments. -/
theorem IsRp.cellE (h : IsRp X w0 w r p t q F G Ft D R) (e : Int) : IsRp X w0 (w.setCell ⟨r, 8, none⟩ (.int .i64 e)) r p t q F G Ft D { R with e := e } := by
  have K : Kp (fun k => k = r) w (w.setCell ⟨r, 8, none⟩ (.int .i64 e)) := (Kp.refl (fun k => k = r) w).setCell (x := ⟨r, 8, none⟩) (.inl rfl) _
  have ho := h.off r (.inl rfl)
  exact
  { box := (h.box.set 8 (.int .i64 e)), len := h.len, many := h.many, own := h.own
    seg := fun i hi => by obtain ⟨base, h1, h2⟩ := h.seg i hi; exact ⟨base, h1, h2.keep K (fun k hf hk => ho.1 i hi (hk ▸ hf))⟩
    dsk := by obtain ⟨base, h1, h2⟩ := h.dsk; exact ⟨base, h1, h2.keep K (fun k hf hk => ho.2.1 (hk ▸ hf))⟩
    tab := by obtain ⟨base, h1, h2⟩ := h.tab; exact ⟨base, h1, h2.keep K (fun k hf hk => ho.2.2 (hk ▸ hf))⟩
    fg := h.fg, ff := h.ff, ft := h.ft, gt := h.gt, off := h.off, rx := h.rx
    xlt := fun k hk => Nat.lt_of_lt_of_le (h.xlt k hk) K.size
    low := h.low.trans (K.belowB h.low.size (fun k hk => hk ▸ h.rlow)), rlow := h.rlow }
theorem IsRp.cellS (h : IsRp X w0 w r p t q F G Ft D R) (b : Bool) : IsRp X w0 (w.setCell ⟨r, 7, none⟩ (.bool b)) r p t q F G Ft D { R with sealed := b } := by
  have K : Kp (fun k => k = r) w (w.setCell ⟨r, 7, none⟩ (.bool b)) := (Kp.refl (fun k => k = r) w).setCell (x := ⟨r, 7, none⟩) (.inl rfl) _
  have ho := h.off r (.inl rfl)
  exact
  { box := (h.box.set 7 (.bool b)), len := h.len, many := h.many, own := h.own
    seg := fun i hi => by obtain ⟨base, h1, h2⟩ := h.seg i hi; exact ⟨base, h1, h2.keep K (fun k hf hk => ho.1 i hi (hk ▸ hf))⟩
    dsk := by obtain ⟨base, h1, h2⟩ := h.dsk; exact ⟨base, h1, h2.keep K (fun k hf hk => ho.2.1 (hk ▸ hf))⟩
    tab := by obtain ⟨base, h1, h2⟩ := h.tab; exact ⟨base, h1, h2.keep K (fun k hf hk => ho.2.2 (hk ▸ hf))⟩
    fg := h.fg, ff := h.ff, ft := h.ft, gt := h.gt, off := h.off, rx := h.rx
    xlt := fun k hk => Nat.lt_of_lt_of_le (h.xlt k hk) K.size
    low := h.low.trans (K.belowB h.low.size (fun k hk => hk ▸ h.rlow)), rlow := h.rlow }
/-- The table has turned. -/
theorem IsRp.note (h : IsRp X w0 w r p t q F G Ft D R) {base : Nat} {l : List NB.Ent} (hb : w0.heap.size ≤ base) (ht : HasT w' base t Ft l) (hs : Stp Ft Ft w w') : IsRp X w0 w' r p t q F G Ft D { R with tab := l } :=
  { box := h.box.keep hs.kp (h.off r (.inl rfl)).2.2, len := h.len, many := h.many, own := h.own
    seg := fun i hi => by obtain ⟨base, h1, h2⟩ := h.seg i hi; exact ⟨base, h1, h2.keep hs.kp (h.ft i hi)⟩
    dsk := by obtain ⟨base, h1, h2⟩ := h.dsk; exact ⟨base, h1, h2.keep hs.kp h.gt⟩
    tab := ⟨base, hb, ht⟩
    fg := h.fg, ff := h.ff, ft := h.ft, gt := h.gt, off := h.off, rx := h.rx
    xlt := fun k hk => Nat.lt_of_lt_of_le (h.xlt k hk) hs.kp.size
    low := by obtain ⟨bt, h1, h2⟩ := h.tab; exact bel h.low (hs.low (base := w0.heap.size) h.low.size (fun k hk => Nat.le_trans h1 (h2.foot k hk).1)) (Nat.le_refl _)
    rlow := h.rlow }
/-- Blocks that are somebody else's: others, as long as they are not its own. -/
theorem IsRp.addX {Y : Nat → Prop} (h : IsRp X w0 w r p t q F G Ft D R) (hb : Below w.heap.size w w') (hY : ∀ k, Y k → X k ∨ k < w0.heap.size ∨ w.heap.size ≤ k) (hlt : ∀ k, Y k → k < w'.heap.size) : IsRp Y w0 w' r p t q F G Ft D R :=
  { h.below hb with
    off := fun k hk => by
      rcases hk with hk | hk
      · exact h.off k (.inl hk)
      · rcases hY k hk with h1 | h1
        · exact h.off k (.inr h1)
        · refine ⟨fun i hi hf => ?_, fun hg => ?_, fun hf => ?_⟩
          · obtain ⟨base, h2, h3⟩ := h.seg i hi
            have := h3.foot k hf; omega
          · obtain ⟨base, h2, h3⟩ := h.dsk
            have := h3.foot k hg; omega
          · obtain ⟨base, h2, h3⟩ := h.tab
            have := h3.foot k hf; omega
    rx := fun hy => by
      rcases hY r hy with h1 | h1
      · exact h.rx h1
      · have := h.rlow; have := h.box.lt; omega
    xlt := hlt }
end
/-- Appending bytes that lie in blocks that are somebody else's. -/
theorem qh_app2 (H : Nat → Prop) (w0 w : World) (q p : Nat) (D : Dk) (S : Sg) (a : Option Addr) (n c : Nat) (b : List UInt8) (h : SdH H w0 w q p D S) (hr : NB.RdB w a n c b) (hH : ∀ k o, a = some ⟨k, o, none⟩ → b ≠ [] → H k ∨ k < w0.heap.size) (hwn : D.waits.length ≤ 900000) (hn : n ≤ 1000000) :
    Calls Try.prog 42 #[.pointer (some ⟨q, 0, none⟩), .slice a n c] w (AppSdH H w0 w q p (appM D S b)) := by
  obtain ⟨base, based, F, G, h1, h2, h3, h4, h5, h6, h7⟩ := h
  have hof : Off (fun k => F k ∨ G k) w a n c b := ⟨hr, fun k o e hn hf => by
    rcases hH k o e hn with h8 | h8
    · exact hf.elim (h7 k h8).2.1 (h7 k h8).2.2
    · rcases hf with hf | hf
      · have := h1.foot k hf; omega
      · have := h2.foot k hf; omega⟩
  refine (sapp_any w base q based p F G S D a n c b h1 h2 h3 hof hwn hn).mono ?_
  rintro e w' ⟨rfl, hd⟩
  exact ⟨rfl, did_sdh (fun k hk => (h1.foot k hk).1) (fun k hk => (h2.foot k hk).1) h4 h5 h6 h7 hd⟩
end Go.Proofs.Ytjfidhjnbcmhfaa
namespace Go.Proofs.Ytjfidhjnbcmhfaa
open Go.RowKit
open Go.NB (Rd Dk Kp Stp Off Dis val I64 Rw oneB dB rw_new)

set_option maxHeartbeats 400000 in
theorem rup_nil (w : World) : Calls Try.prog 23 #[.pointer none] w fun e w' => e = .returned (.int .i64 1) ∧ w' = w := by
  go_enter Try.func23, Try.ntmps23
  go_wp2
  go_ret
  exact ⟨rfl, rfl⟩
set_option maxHeartbeats 400000 in
theorem rup_any {X : Nat → Prop} {w0 w : World} {r p : Nat} {D : Dk} {R : Rp} (h : HasRp X w0 w r p D R) : Calls Try.prog 23 #[.pointer (some ⟨r, 0, none⟩)] w fun e w' => e = .returned (.int .i64 R.e) ∧ w' = w := by
  obtain ⟨t, q, F, G, Ft, h⟩ := h
  have c8 := h.box.cell 8 _ rfl
  go_enter Try.func23, Try.ntmps23
  go_wp2
  go_ret
  exact ⟨rfl, rfl⟩
set_option maxHeartbeats 400000 in
theorem rperr_nil (w : World) : Calls Try.prog 15 #[.pointer none] w fun e w' => e = .returned (.int .i64 1) ∧ w' = w := by
  go_enter Try.func15, Try.ntmps15
  go_wp2_with (first | (go_at_call 23; refine (rup_nil _).mono ?_; rintro e w1 ⟨rfl, e2⟩; subst w1))
  go_ret
  exact ⟨rfl, rfl⟩
set_option maxHeartbeats 400000 in
theorem rperr_any {X : Nat → Prop} {w0 w : World} {r p : Nat} {D : Dk} {R : Rp} (h : HasRp X w0 w r p D R) : Calls Try.prog 15 #[.pointer (some ⟨r, 0, none⟩)] w fun e w' => e = .returned (.int .i64 R.e) ∧ w' = w := by
  go_enter Try.func15, Try.ntmps15
  go_wp2_with (first | (go_at_call 23; refine (rup_any h).mono ?_; rintro e w1 ⟨rfl, e2⟩; subst w1))
  go_ret
  exact ⟨rfl, rfl⟩
set_option maxHeartbeats 400000 in
theorem rsealed_nil (w : World) : Calls Try.prog 19 #[.pointer none] w fun e w' => e = .returned (.bool false) ∧ w' = w := by
  go_enter Try.func19, Try.ntmps19
  go_wp2
  go_ret
  exact ⟨rfl, rfl⟩
set_option maxHeartbeats 400000 in
theorem rsealed_any {X : Nat → Prop} {w0 w : World} {r p : Nat} {D : Dk} {R : Rp} (h : HasRp X w0 w r p D R) : Calls Try.prog 19 #[.pointer (some ⟨r, 0, none⟩)] w fun e w' => e = .returned (.bool R.sealed) ∧ w' = w := by
  obtain ⟨t, q, F, G, Ft, h⟩ := h
  have c7 := h.box.cell 7 _ rfl
  go_enter Try.func19, Try.ntmps19
  go_wp2
  go_ret
  exact ⟨rfl, rfl⟩
set_option maxHeartbeats 400000 in
theorem rseal_nil (w : World) : Calls Try.prog 18 #[.pointer none] w fun e w' => e = .returned (.tuple #[]) ∧ w' = w := by
  go_enter Try.func18, Try.ntmps18
  go_wp2
  go_end0
  exact ⟨rfl, rfl⟩
set_option maxHeartbeats 400000 in
theorem rseal_any {X : Nat → Prop} {w0 w : World} {r p : Nat} {D : Dk} {R : Rp} (h : HasRp X w0 w r p D R) :
    Calls Try.prog 18 #[.pointer (some ⟨r, 0, none⟩)] w fun e w' => e = .returned (.tuple #[]) ∧ HasRp X w0 w' r p D { R with sealed := true } ∧ Kp (fun k => ¬ X k) w w' := by
  obtain ⟨t, q, F, G, Ft, h⟩ := h
  have c7 := h.box.cell 7 _ rfl
  have f7 := h.box.free 7
  have h2 := h.cellS true
  have K : Kp (fun k => ¬ X k) w (w.setCell ⟨r, 7, none⟩ (.bool true)) := (Kp.refl _ w).setCell (x := ⟨r, 7, none⟩) (.inl h.rx) _
  go_enter Try.func18, Try.ntmps18
  go_wp2
  go_end0
  exact ⟨rfl, ⟨t, q, F, G, Ft, h2⟩, K⟩
end Go.Proofs.Ytjfidhjnbcmhfaa
namespace Go.Proofs.Ytjfidhjnbcmhfaa
open Go.RowKit
open Go.NB (Rd Dk Kp Stp Off Dis val I64 Rw oneB dB rw_new)

theorem rp_at {w : World} {r t : Nat} {q : Nat → Nat} {R : Rp} (h : Rw w r (rpL R q t) 62) (i : Nat) (h4 : i < 4) (hi : i < R.l.length) : w.cell? ⟨r, i, none⟩ = some (.pointer (some ⟨q i, 0, none⟩)) := by
  have h3 : (rpL R q t)[i]? = some (qv R q i) := by
    match i, h4 with
    | 0, _ => rfl
    | 1, _ => rfl
    | 2, _ => rfl
    | 3, _ => rfl
  rw [h.cell i _ h3]
  unfold qv
  rw [if_pos hi]
theorem kp_trans {F : Nat → Prop} {a b c : World} (h1 : Kp F a b) (h2 : Kp F b c) : Kp F a c :=
  ⟨h2.os.trans h1.os, h2.tape.trans h1.tape, h2.output.trans h1.output, Nat.le_trans h1.size h2.size, fun k hk hn => (h2.block k (Nat.lt_of_lt_of_le hk h1.size) hn).trans (h1.block k hk hn)⟩
set_option maxHeartbeats 400000 in
/-- The closure that lets an error stay. -/
theorem rstay_any (w : World) (g r : Nat) (x old : Int) (hg : w.cell? ⟨g, 0, none⟩ = some (.pointer (some ⟨r, 0, none⟩))) (h8 : w.cell? ⟨r, 8, none⟩ = some (.int .i64 old)) (f8 : w.frozen? ⟨r, 8, none⟩ = false) :
    Calls Try.prog 41 #[.int .i64 x, .pointer (some ⟨g, 0, none⟩)] w fun e w' => e = .returned (.tuple #[.int .i64 0, .int .i64 x]) ∧ w' = w.setCell ⟨r, 8, none⟩ (.int .i64 x) := by
  go_enter Try.func41, Try.ntmps41
  go_wp2
  refine bodyPost_ret (v := .tuple #[.int .i64 0, .int .i64 x]) (by simp [results, Try.results41, go_sem]) rfl ?_
  exact ⟨rfl, rfl⟩
/-- What appending leaves. -/
def ApnR (X : Nat → Prop) (w0 w : World) (r p : Nat) (s : Dk × Rp × Nat × Int) (e : Ending) (w' : World) : Prop :=
  e = .returned (.tuple #[.int .i64 (s.2.2.1 : Int), .int .i64 s.2.2.2]) ∧ HasRp X w0 w' r p s.1 s.2.1 ∧ Kp (fun k => ¬ X k) w w'
theorem kp_rest {X : Nat → Prop} {r : Nat} {F : Nat → Nat → Prop} {Ft : Nat → Prop} {m i : Nat} {w w' : World} (h : Kp (fun k => ¬ restR X r F Ft m i k) w w') : Kp (fun k => ¬ X k) w w' := h.imp fun k hn hx => hn (.inr (.inl hx))
theorem HasRp.imp {X Y : Nat → Prop} {w0 w : World} {r p : Nat} {D : Dk} {R : Rp} (h : HasRp X w0 w r p D R) (hs : ∀ k, Y k → X k) : HasRp Y w0 w r p D R := by
  obtain ⟨t, q, F, G, Ft, h⟩ := h
  exact ⟨t, q, F, G, Ft, { h with off := fun k hk => h.off k (hk.imp id (hs k)), rx := fun hy => h.rx (hs r hy), xlt := fun k hk => h.xlt k (hs k hk) }⟩
theorem HasRp.cellE {X : Nat → Prop} {w0 w : World} {r p : Nat} {D : Dk} {R : Rp} (h : HasRp X w0 w r p D R) (e : Int) : HasRp X w0 (w.setCell ⟨r, 8, none⟩ (.int .i64 e)) r p D { R with e := e } := by
  obtain ⟨t, q, F, G, Ft, h⟩ := h
  exact ⟨t, q, F, G, Ft, h.cellE e⟩
theorem seg_put (R : Rp) (i : Nat) (S : Sg) (hi : i < R.l.length) : (R.put i S).seg i = S := by rw [put_seg R i i S hi, if_pos rfl]
theorem put_put (R : Rp) (i : Nat) (S S' : Sg) : (R.put i S).put i S' = R.put i S' := by unfold Rp.put; simp
set_option maxHeartbeats 4000000 in
theorem rapn_any (X : Nat → Prop) (w0 w : World) (r p : Nat) (D : Dk) (R : Rp) (h : HasRp X w0 w r p D R) (i : Nat) (hi : i < R.l.length) (a : Option Addr) (n c : Nat) (b : List UInt8) (hr : NB.RdB w a n c b) (hX : ∀ k o, a = some ⟨k, o, none⟩ → b ≠ [] → X k ∨ k < w0.heap.size) (hwn : D.waits.length ≤ 900000) (hn : n ≤ 1000000)
    (hsw : (appM D (R.seg i) b).1.waits.length ≤ 1000000) :
    Calls Try.prog 26 #[.pointer (some ⟨r, 0, none⟩), .int .i64 (i : Int), .slice a n c] w (ApnR X w0 w r p (apnM D R i b)) := by
  obtain ⟨t, q, F, G, Ft, h⟩ := h
  have hX0 := h.xlt
  have hi4 : i < 4 := by have := h.len; have := h.many.2; omega
  have hi4i : (i : Int) < 4 := by omega
  have ob := oneB w (.cells #[.pointer (some ⟨r, 0, none⟩)] 28)
  have RB : Rw (w.alloc (.cells #[.pointer (some ⟨r, 0, none⟩)] 28)) w.heap.size [.pointer (some ⟨r, 0, none⟩)] 28 := rw_new w [.pointer (some ⟨r, 0, none⟩)] _ rfl
  have h1 := h.addX (Y := fun k => X k ∨ k = w.heap.size) ob (fun k hk => hk.elim .inl (fun e => .inr (.inr (by omega)))) (fun k hk => hk.elim (fun hx => Nat.lt_of_lt_of_le (hX0 k hx) ob.size) (fun e => e ▸ RB.lt))
  have hr1 := hr.below ob
  have hrx : r ≠ w.heap.size := by have := h.box.lt; omega
  have c0 := RB.cell 0 _ rfl
  have cq := rp_at h1.box i hi4 hi
  have hrest : restR (fun k => X k ∨ k = w.heap.size) r F Ft R.l.length i w.heap.size := .inr (.inl (.inr rfl))
  obtain ⟨D1, S1, at1, e1, hA⟩ : ∃ D1 S1 at1 e1, appM D (R.seg i) b = (D1, S1, at1, e1) := ⟨_, _, _, _, rfl⟩
  have hap := qh_app2 _ w0 _ (q i) p D (R.seg i) a n c b (h1.sdh i hi) hr1 (fun k o e hne => (hX k o e hne).imp (fun hx => .inr (.inl (.inl hx))) id) hwn hn
  rw [hA] at hap hsw
  have HAP := Go.Lib.hid hap
  have HSW := Go.Lib.hid hsw
  have hmod : apnM D R i b = if e1 = 21 then (D1, R.put i S1, 0, 21) else if e1 ≠ 0 then (D1, { R.put i S1 with e := e1 }, 0, e1) else if (synM D1 S1).2.2 ≠ 0 then ((synM D1 S1).1, { R.put i (synM D1 S1).2.1 with e := (synM D1 S1).2.2 }, 0, (synM D1 S1).2.2) else ((synM D1 S1).1, R.put i (synM D1 S1).2.1, at1, 0) := by
    unfold apnM; rw [hA]
  have HMOD := Go.Lib.hid hmod
  have HH1 := Go.Lib.hid h1
  have HH := Go.Lib.hid h
  have HOB := Go.Lib.hid ob
  clear hap hsw hmod hA h1 hr hr1 hX hX0 h
  go_enter Try.func26, Try.ntmps26
  go_wp2_with fail
  generalize w.alloc (.cells #[.pointer (some ⟨r, 0, none⟩)] 28) = w1 at *
  go_at_call 42
  refine HAP.out.mono ?_
  rintro e w2 ⟨rfl, hS2, K2⟩
  replace hS2 : SdH (restR (fun k => X k ∨ k = w.heap.size) r F Ft R.l.length i) w0 w2 (q i) p D1 S1 := hS2
  have RB2 := RB.keep K2 (fun hn => hn hrest)
  have bx2 := HH1.out.box.keep K2 (fun hn => hn (.inl rfl))
  have K02 := kp_trans (Kp.of_below (F := fun k => ¬ restR (fun k => X k ∨ k = w.heap.size) r F Ft R.l.length i k) HOB.out) K2
  have hxx : ∀ k, X k → restR (fun k => X k ∨ k = w.heap.size) r F Ft R.l.length i k := fun k hx => .inr (.inl (.inl hx))
  have hsub : ∀ k, X k → (X k ∨ k = w.heap.size) := fun k hx => .inl hx
  have hrX := HH.out.rx
  have HS2 := Go.Lib.hid hS2; have HK2 := Go.Lib.hid K2; have HK02 := Go.Lib.hid K02
  clear hS2 K2 K02 c0 cq RB
  have g0 := RB2.cell 0 _ rfl
  have cq := rp_at bx2 i hi4 hi
  have c8 := bx2.cell 8 _ rfl
  have f8 := bx2.free 8
  by_cases h21 : e1 = 21
  · subst h21
    go_wp2_with fail
    refine bodyPost_ret (v := .tuple #[.int .i64 0, .int .i64 21]) (by simp [results, Try.results26, go_sem]) rfl ?_
    rw [HMOD.out]
    simp only [if_true, eq_self_iff_true]
    exact ⟨rfl, (HH1.out.put i hi HS2.out HK2.out).imp hsub, HK02.out.imp (fun k hn hx => hn (hxx k hx))⟩
  have h21b : (e1 == (21 : Int)) = false := beq_eq_false_iff_ne.2 h21
  by_cases h00 : e1 = 0
  case neg =>
    have h00b : (e1 == (0 : Int)) = false := beq_eq_false_iff_ne.2 h00
    have hst := rstay_any w2 w.heap.size r e1 R.e g0 c8 f8
    have HST := Go.Lib.hid hst
    clear hst
    go_wp2_with (first | (go_at_call 41; refine HST.out.mono ?_; rintro e w3 ⟨rfl, e3⟩; subst w3))
    refine bodyPost_ret (v := .tuple #[.int .i64 0, .int .i64 e1]) (by simp [results, Try.results26, go_sem]) rfl ?_
    rw [HMOD.out, if_neg h21, if_pos h00]
    exact ⟨rfl, ((HH1.out.put i hi HS2.out HK2.out).cellE e1).imp hsub, (HK02.out.imp (fun k hn hx => hn (hxx k hx))).setCell (x := ⟨r, 8, none⟩) (.inl hrX) _⟩
  subst h00
  obtain ⟨D4, S4, e4, hM4⟩ : ∃ D4 S4 e4, synM D1 S1 = (D4, S4, e4) := ⟨_, _, _, rfl⟩
  have hsy := qh_sync _ w0 w2 (q i) p D1 S1 HS2.out HSW.out
  rw [hM4] at hsy
  have HSY := Go.Lib.hid hsy
  have hmod := HMOD.out
  rw [if_neg (by decide), if_neg (fun h => h rfl), hM4] at hmod
  have HMOD2 := Go.Lib.hid hmod
  clear hsy hmod hM4 HMOD
  go_wp2_with fail
  go_at_call 43
  refine HSY.out.mono ?_
  rintro e w4 ⟨rfl, hS4, K4⟩
  replace hS4 : SdH (restR (fun k => X k ∨ k = w.heap.size) r F Ft R.l.length i) w0 w4 (q i) p D4 S4 := hS4
  have RB4 := RB2.keep K4 (fun hn => hn hrest)
  have bx4 := bx2.keep K4 (fun hn => hn (.inl rfl))
  have K14 := kp_trans HK2.out K4
  have K04 := kp_trans HK02.out K4
  have HS4 := Go.Lib.hid hS4; have HK14 := Go.Lib.hid K14; have HK04 := Go.Lib.hid K04
  clear hS4 K14 K04 K4 g0 cq c8 f8 RB2 bx2
  have g0 := RB4.cell 0 _ rfl
  have c8 := bx4.cell 8 _ rfl
  have f8 := bx4.free 8
  by_cases h44 : e4 = 0
  case neg =>
    have h44b : (e4 == (0 : Int)) = false := beq_eq_false_iff_ne.2 h44
    have hst := rstay_any w4 w.heap.size r e4 R.e g0 c8 f8
    have HST := Go.Lib.hid hst
    clear hst
    go_wp2_with (first | (go_at_call 41; refine HST.out.mono ?_; rintro e w3 ⟨rfl, e3⟩; subst w3))
    refine bodyPost_ret (v := .tuple #[.int .i64 0, .int .i64 e4]) (by simp [results, Try.results26, go_sem]) rfl ?_
    rw [HMOD2.out, if_pos h44]
    exact ⟨rfl, ((HH1.out.put i hi HS4.out HK14.out).cellE e4).imp hsub, (HK04.out.imp (fun k hn hx => hn (hxx k hx))).setCell (x := ⟨r, 8, none⟩) (.inl hrX) _⟩
  subst h44
  go_wp2_with fail
  refine bodyPost_ret (v := .tuple #[.int .i64 (at1 : Int), .int .i64 0]) (by simp [results, Try.results26, go_sem]) rfl ?_
  rw [HMOD2.out, if_neg (fun h => h rfl)]
  exact ⟨rfl, (HH1.out.put i hi HS4.out HK14.out).imp hsub, HK04.out.imp (fun k hn hx => hn (hxx k hx))⟩
end Go.Proofs.Ytjfidhjnbcmhfaa
namespace Go.Proofs.Ytjfidhjnbcmhfaa
open Go.RowKit
open Go.NB (Rd Dk Kp Stp Off Dis val I64 Rw oneB dB rw_new)

set_option maxHeartbeats 1000000 in
theorem rprd_nil (w : World) (seg at_ : Int) : Calls Try.prog 13 #[.pointer none, .int .i64 seg, .int .i64 at_] w (EntE w ((0, 0, []), 1)) := by
  go_enter Try.func13, Try.ntmps13
  go_wp2_with fail
  refine bodyPost_ret (v := .tuple #[.agg #[.int .u64 0, .int .u64 0, .slice none 0 0], .int .i64 1]) (by simp [results, Try.results13, go_sem]) rfl ?_
  exact ⟨none, 0, 0, rfl, NB.Rd.nil_mk, oneB w _⟩
set_option maxHeartbeats 1000000 in
theorem rprd_low {X : Nat → Prop} {w0 w : World} {r p : Nat} {D : Dk} {R : Rp} (h : HasRp X w0 w r p D R) (seg at_ : Int) (hs : seg < 0) : Calls Try.prog 13 #[.pointer (some ⟨r, 0, none⟩), .int .i64 seg, .int .i64 at_] w (EntE w ((0, 0, []), 1)) := by
  have hd := decide_eq_true hs
  go_enter Try.func13, Try.ntmps13
  go_wp2_with fail
  refine bodyPost_ret (v := .tuple #[.agg #[.int .u64 0, .int .u64 0, .slice none 0 0], .int .i64 1]) (by simp [results, Try.results13, go_sem]) rfl ?_
  exact ⟨none, 0, 0, rfl, NB.Rd.nil_mk, oneB w _⟩
set_option maxHeartbeats 1000000 in
theorem rprd_high {X : Nat → Prop} {w0 w : World} {r p : Nat} {D : Dk} {R : Rp} (h : HasRp X w0 w r p D R) (seg at_ : Int) (h0 : ¬ seg < 0) (hs : (R.many : Int) ≤ seg) : Calls Try.prog 13 #[.pointer (some ⟨r, 0, none⟩), .int .i64 seg, .int .i64 at_] w (EntE w ((0, 0, []), 1)) := by
  obtain ⟨t, q, F, G, Ft, h⟩ := h
  have hd0 := decide_eq_false h0
  have hd := decide_eq_true hs
  have c4 := (h.box.below (oneB w (.cells #[.int .u64 0, .int .u64 0, .slice none 0 0] 34))).cell 4 _ rfl
  go_enter Try.func13, Try.ntmps13
  go_wp2_with fail
  refine bodyPost_ret (v := .tuple #[.agg #[.int .u64 0, .int .u64 0, .slice none 0 0], .int .i64 1]) (by simp [results, Try.results13, go_sem]) rfl ?_
  exact ⟨none, 0, 0, rfl, NB.Rd.nil_mk, oneB w _⟩
set_option maxHeartbeats 4000000 in
theorem rprd_in {X : Nat → Prop} {w0 w : World} {r p : Nat} {D : Dk} {R : Rp} (h : HasRp X w0 w r p D R) (i : Nat) (hi : i < R.l.length) (at_ : Int) (hb : ∀ b ∈ (R.seg i).l, b.length ≤ 100000) :
    Calls Try.prog 13 #[.pointer (some ⟨r, 0, none⟩), .int .i64 (i : Int), .int .i64 at_] w (EntE w (if (redM (R.seg i) at_).2 ≠ 0 then ((0, 0, []), (redM (R.seg i) at_).2) else getM (redM (R.seg i) at_).1)) := by
  obtain ⟨t, q, F, G, Ft, h⟩ := h
  have hi4 : i < 4 := by have := h.len; have := h.many.2; omega
  have hi4i : (i : Int) < 4 := by omega
  have h0 : ¬ (i : Int) < 0 := by omega
  have hm : ¬ (R.many : Int) ≤ (i : Int) := by have := h.len; omega
  have hmn : decide (R.many ≤ i) = false := decide_eq_false (by have := h.len; omega)
  have hmi : decide ((R.many : Int) ≤ (i : Int)) = false := decide_eq_false hm
  have ob := oneB w (.cells #[.int .u64 0, .int .u64 0, .slice none 0 0] 34)
  have RB : Rw (w.alloc (.cells #[.int .u64 0, .int .u64 0, .slice none 0 0] 34)) w.heap.size [.int .u64 0, .int .u64 0, .slice none 0 0] 34 := rw_new w [.int .u64 0, .int .u64 0, .slice none 0 0] _ rfl
  have h1 := h.below ob
  have c4 := h1.box.cell 4 _ rfl
  have cq := rp_at h1.box i hi4 hi
  obtain ⟨bs, er, hM⟩ : ∃ bs er, redM (R.seg i) at_ = (bs, er) := ⟨_, _, rfl⟩
  have hbl : bs.length ≤ 100000 := by
    have h2 : bs = (redM (R.seg i) at_).1 := by rw [hM]
    rw [h2]
    unfold redM
    split
    · simp
    split
    · simp
    · rename_i g1 g2
      have hN : at_.toNat < (R.seg i).l.length := by omega
      rw [List.getD_eq_getElem?_getD, List.getElem?_eq_getElem hN]
      exact hb _ (List.getElem_mem hN)
  have hrd := qh_read _ w0 _ (q i) p D (R.seg i) at_ (h1.sdh i hi) hb
  rw [hM] at hrd ⊢
  simp only
  have HRD := Go.Lib.hid hrd
  have HB := Go.Lib.hid hb
  have HOB := Go.Lib.hid ob
  clear hrd hM hb h h1 ob
  obtain ⟨Q, hQ⟩ : ∃ Q, (if er ≠ 0 then ((0, 0, []), er) else getM bs : En × Int) = Q := ⟨_, rfl⟩
  rw [hQ]
  have HQ := Go.Lib.hid hQ
  clear hQ
  go_enter Try.func13, Try.ntmps13
  go_wp2_with fail
  generalize w.alloc (.cells #[.int .u64 0, .int .u64 0, .slice none 0 0] 34) = w1 at *
  go_at_call 27
  refine HRD.out.mono ?_
  rintro e w2 ⟨a2, c2, rfl, hr2, _, _, hb2⟩
  replace hr2 : NB.RdB w2 a2 bs.length c2 bs := hr2
  have RB2 := RB.below hb2
  have B2 := bel HOB.out hb2 HOB.out.size
  clear c4 cq RB hb2
  by_cases her : er = 0
  case neg =>
    have heb : (er != (0 : Int)) = true := by simp [her]
    have heb2 : (er == (0 : Int)) = false := beq_eq_false_iff_ne.2 her
    go_wp2_with (refine NB.wpList_store_agg_any rfl 34 (.tmp 6) (.tmp 38) rfl rfl w.heap.size 0 #[.int .u64 0, .int .u64 0, .slice none 0 0] rfl rfl 34 #[.int .u64 0, .int .u64 0, .slice none 0 0] RB2 (by kernel_rfl) (Nat.le_refl _) (by intro v hv; simp only [List.mem_cons, List.not_mem_nil, or_false] at hv; rcases hv with rfl | rfl | rfl <;> rfl) _ rfl ?_; intro w3 hg3 hc3 hs3)
    have K3 := (NB.Kp.refl (fun k => k = w.heap.size) w2).grown hg3 (fun k e => .inl (by cases e; rfl))
    have R3 : Rw w3 w.heap.size [.int .u64 0, .int .u64 0, .slice none 0 0] 34 := hc3
    have y0 := R3.cell 0 _ rfl
    have y1 := R3.cell 1 _ rfl
    have y2 := R3.cell 2 _ rfl
    have hlt := R3.lt
    refine bodyPost_ret (v := .tuple #[.agg #[.int .u64 0, .int .u64 0, .slice none 0 0], .int .i64 er]) (by simp [results, Try.results13, go_sem, y0, y1, y2, hlt]) rfl ?_
    rw [← HQ.out, if_pos her]
    exact ⟨none, 0, 0, rfl, NB.Rd.nil_mk, B2.trans (K3.belowB B2.size (fun k hk => by omega))⟩
  subst her
  have hgt := dget_any w2 a2 bs.length c2 bs hr2 (by omega)
  have hq := HQ.out
  rw [if_neg (fun h => h rfl)] at hq
  rw [hq] at hgt
  have HGT := Go.Lib.hid hgt
  clear hq hgt HQ
  go_wp2_with fail
  go_at_call 31
  refine HGT.out.mono ?_
  rintro e w3 ⟨a3, n3, c3, rfl, hr3, hb3⟩
  have RB3 := RB2.below hb3
  have B3 := bel B2 hb3 B2.size
  have hx3 : ∀ b o, a3 = some ⟨b, o, none⟩ → Q.1.2.2.map NB.u8v ≠ [] → ¬ b = w.heap.size := fun b o e hn e2 => by
    subst e2
    obtain ⟨v, hv⟩ : ∃ v, (Q.1.2.2.map NB.u8v)[0]? = some v := by
      cases hl : Q.1.2.2.map NB.u8v with
      | nil => exact absurd hl hn
      | cons v l => exact ⟨v, rfl⟩
    have hc := hr3.cell _ _ e 0 v hv
    obtain ⟨x, hx⟩ : ∃ x, v = NB.u8v x := by
      have := List.mem_of_getElem? hv
      obtain ⟨x, _, e3⟩ := List.mem_map.1 this
      exact ⟨x, e3.symm⟩
    subst hx
    rw [cell_of_row w3 w.heap.size _ _ _ (0, 0) RB3] at hc
    match o + 0, hc with
    | 0, hc => cases hc
    | 1, hc => cases hc
    | 2, hc => cases hc
    | k + 3, hc => simp at hc
  go_wp2_with (refine NB.wpList_store_agg_any rfl 34 (.tmp 6) (.tmp 42) rfl rfl w.heap.size 0 #[.int .u64 (Q.1.1 : Int), .int .u64 (Q.1.2.1 : Int), .slice a3 n3 c3] rfl rfl 34 #[.int .u64 0, .int .u64 0, .slice none 0 0] RB3 (by kernel_rfl) (Nat.le_refl _) (by intro v hv; simp only [List.mem_cons, List.not_mem_nil, or_false] at hv; rcases hv with rfl | rfl | rfl <;> rfl) _ rfl ?_; intro w4 hg4 hc4 hs4)
  have K4 := (NB.Kp.refl (fun k => k = w.heap.size) w3).grown hg4 (fun k e => .inl (by cases e; rfl))
  have R4 : Rw w4 w.heap.size [.int .u64 (Q.1.1 : Int), .int .u64 (Q.1.2.1 : Int), .slice a3 n3 c3] 34 := hc4
  have y0 := R4.cell 0 _ rfl
  have y1 := R4.cell 1 _ rfl
  have y2 := R4.cell 2 _ rfl
  have hlt := R4.lt
  refine bodyPost_ret (v := .tuple #[.agg #[.int .u64 (Q.1.1 : Int), .int .u64 (Q.1.2.1 : Int), .slice a3 n3 c3], .int .i64 Q.2]) (by simp [results, Try.results13, go_sem, y0, y1, y2, hlt]) rfl ?_
  exact ⟨a3, n3, c3, rfl, K4.rd hr3 hx3, B3.trans (K4.belowB B3.size (fun k hk => by omega))⟩
theorem rprd_any {X : Nat → Prop} {w0 w : World} {r p : Nat} {D : Dk} {R : Rp} (h : HasRp X w0 w r p D R) (seg at_ : Int) (hm : ∀ i : Nat, i < R.many → i < R.l.length ∨ seg ≠ (i : Int)) (hb : ∀ i, ∀ b ∈ (R.seg i).l, b.length ≤ 100000) :
    Calls Try.prog 13 #[.pointer (some ⟨r, 0, none⟩), .int .i64 seg, .int .i64 at_] w (EntE w (rreadM R seg at_)) := by
  by_cases h0 : seg < 0
  · rw [show rreadM R seg at_ = ((0, 0, []), 1) by unfold rreadM; rw [if_pos (.inl h0)]]
    exact rprd_low h seg at_ h0
  by_cases h1 : (R.many : Int) ≤ seg
  · rw [show rreadM R seg at_ = ((0, 0, []), 1) by unfold rreadM; rw [if_pos (.inr h1)]]
    exact rprd_high h seg at_ h0 h1
  obtain ⟨i, rfl⟩ := Int.eq_ofNat_of_zero_le (show 0 ≤ seg by omega)
  have hi : i < R.l.length := (hm i (by omega)).resolve_right (fun hn => hn rfl)
  rw [show rreadM R (i : Int) at_ = if (redM (R.seg i) at_).2 ≠ 0 then ((0, 0, []), (redM (R.seg i) at_).2) else getM (redM (R.seg i) at_).1 by unfold rreadM; rw [if_neg (by omega)]; rfl]
  exact rprd_in h i hi at_ (hb i)
end Go.Proofs.Ytjfidhjnbcmhfaa
namespace Go.Proofs.Ytjfidhjnbcmhfaa
open Go.RowKit
open Go.NB (Rd Dk Kp Stp Off Dis val I64 Rw oneB dB rw_new B64)

/-- What storing leaves. -/
def StoR (X : Nat → Prop) (w0 w : World) (r p : Nat) (s : Dk × Rp × Int) (e : Ending) (w' : World) : Prop :=
  e = .returned (.int .i64 s.2.2) ∧ HasRp X w0 w' r p s.1 s.2.1 ∧ Kp (fun k => ¬ X k) w w'
theorem sto_same {X : Nat → Prop} {w0 w w' : World} {r p : Nat} {D : Dk} {R : Rp} (h : HasRp X w0 w r p D R) (hb : Below w.heap.size w w') (x : Int) : StoR X w0 w r p (D, R, x) (.returned (.int .i64 x)) w' := ⟨rfl, h.below hb, Kp.of_below hb⟩
section
variable {X : Nat → Prop} {w0 w : World} {r p : Nat} {D : Dk} {R : Rp}
set_option maxRecDepth 100000 in
set_option maxHeartbeats 4000000 in
theorem rpst_err (h : HasRp X w0 w r p D R) (seg at_ : Int) (c s : Nat) (a : Option Addr) (n k : Nat) (he : R.e ≠ 0) :
    Calls Try.prog 11 #[.pointer (some ⟨r, 0, none⟩), .int .i64 seg, .int .i64 at_, .agg #[.int .u64 (c : Int), .int .u64 (s : Int), .slice a n k]] w (StoR X w0 w r p (D, R, R.e)) := by
  have ob := oneB w (.cells #[.int .u64 (c : Int), .int .u64 (s : Int), .slice a n k] 34)
  have h1 := h.below ob
  have hb1 : (R.e == (0 : Int)) = false := beq_eq_false_iff_ne.2 he
  go_enter Try.func11, Try.ntmps11
  go_wp2_with (first | (go_at_call 23; refine (rup_any h1).mono ?_; rintro e w1 ⟨rfl, e2⟩; subst w1))
  go_ret
  exact sto_same h ob R.e
set_option maxRecDepth 100000 in
set_option maxHeartbeats 4000000 in
theorem rpst_arg (h : HasRp X w0 w r p D R) (seg at_ : Int) (c s : Nat) (a : Option Addr) (n k : Nat) (he : R.e = 0) (hbad : seg < 0 ∨ (R.many : Int) ≤ seg ∨ seg = R.own ∨ at_ < 0) :
    Calls Try.prog 11 #[.pointer (some ⟨r, 0, none⟩), .int .i64 seg, .int .i64 at_, .agg #[.int .u64 (c : Int), .int .u64 (s : Int), .slice a n k]] w (StoR X w0 w r p (D, R, 1)) := by
  have ob := oneB w (.cells #[.int .u64 (c : Int), .int .u64 (s : Int), .slice a n k] 34)
  have h1 := h.below ob
  have hup := rup_any h1
  rw [he] at hup
  have HUP := Go.Lib.hid hup
  have hfin := sto_same h ob 1
  obtain ⟨t, q, F, G, Ft, hh⟩ := h1
  have c4 := hh.box.cell 4 _ rfl
  have c5 := hh.box.cell 5 _ rfl
  have HF := Go.Lib.hid hfin
  clear hup hh hfin he h
  by_cases g1 : seg < 0
  · have d1 := decide_eq_true g1
    go_enter Try.func11, Try.ntmps11
    go_wp2_with (first | (go_at_call 23; refine HUP.out.mono ?_; rintro e w1 ⟨rfl, e2⟩; subst w1))
    go_ret
    exact HF.out
  have d1 := decide_eq_false g1
  by_cases g2 : (R.many : Int) ≤ seg
  · have d2 := decide_eq_true g2
    go_enter Try.func11, Try.ntmps11
    go_wp2_with (first | (go_at_call 23; refine HUP.out.mono ?_; rintro e w1 ⟨rfl, e2⟩; subst w1))
    go_ret
    exact HF.out
  have d2 := decide_eq_false g2
  by_cases g3 : seg = (R.own : Int)
  · have d3 : (seg == (R.own : Int)) = true := by simp [g3]
    go_enter Try.func11, Try.ntmps11
    go_wp2_with (first | (go_at_call 23; refine HUP.out.mono ?_; rintro e w1 ⟨rfl, e2⟩; subst w1))
    go_ret
    exact HF.out
  have d3 : (seg == (R.own : Int)) = false := beq_eq_false_iff_ne.2 g3
  have g4 : at_ < 0 := by rcases hbad with h | h | h | h; exact absurd h g1; exact absurd h g2; exact absurd h g3; exact h
  have d4 := decide_eq_true g4
  go_enter Try.func11, Try.ntmps11
  go_wp2_with (first | (go_at_call 23; refine HUP.out.mono ?_; rintro e w1 ⟨rfl, e2⟩; subst w1))
  go_ret
  exact HF.out
end
end Go.Proofs.Ytjfidhjnbcmhfaa
