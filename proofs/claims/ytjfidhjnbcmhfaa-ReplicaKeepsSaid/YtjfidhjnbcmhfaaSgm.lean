/- Segments, in plain lists: what each call does. No walk in sight. -/
import Derived.Test.YtjfidhjnbcmhfaaFrp
import Derived.Test.YtjfidhjnbcmhfaaDsx
namespace Go.Proofs.Ytjfidhjnbcmhfaa
open Go.NB (Dk val)
open Go.NB.Crc

def zs (n : Nat) : List UInt8 := List.replicate n 0
/-- A part as it is laid: 56 bytes, then with its sum and stamp. -/
def rowS (ep pl pt pn : Nat) (b : List UInt8) : List UInt8 := four ep ++ (four pl ++ (UInt8.ofNat pt :: UInt8.ofNat pn :: UInt8.ofNat b.length :: (b ++ zs (45 - b.length))))
def blkL (ep pl pt pn : Nat) (b : List UInt8) : List UInt8 := sealedL (rowS ep pl pt pn b) ++ four ep
def num4 (l : List UInt8) : Nat := val (l.take 4)

/-- A part. -/
structure Bk where
  ep : Nat
  pl : Nat
  pt : Nat
  pn : Nat
  bs : List UInt8
def rightB (b : List UInt8) : Bool := decide (b.take 4 = b.drop 60) && rightL (b.take 60)
def bkOf (b : List UInt8) : Bk := ⟨num4 b, num4 (b.drop 4), (b.getD 8 0).toNat, (b.getD 9 0).toNat, (b.drop 11).take (min (b.getD 10 0).toNat 45)⟩
def readB (b : List UInt8) : Option Bk := if rightB b = true ∧ (b.getD 10 0).toNat ≤ 45 then some (bkOf b) else none
def lk (R : List (List UInt8)) (i : Nat) : Option Bk := (R[i]?).bind readB
def needM (n : Nat) : Nat := max ((n + 44) / 45) 1
def piece (b : List UInt8) (i : Nat) : List UInt8 := (b.drop (45 * i)).take 45

/-- The parts from the i-th on, n of them, of the record that begins at a block. -/
def gath (R : List (List UInt8)) (at_ : Nat) (f : Bk) : Nat → Nat → Option (List UInt8)
  | 0, _ => some []
  | n + 1, i =>
    match lk R (at_ + i) with
    | none => none
    | some x =>
      if x.pl ≠ f.pl ∨ x.ep ≠ f.ep ∨ x.pt ≠ i ∨ x.pn ≠ f.pn then none
      else if (i + 1 < f.pn ∧ x.bs.length < 45) ∨ (i + 1 = f.pn ∧ x.bs.length = 0 ∧ 0 < i) then none
      else (gath R at_ f n (i + 1)).map (x.bs ++ ·)
def recordM (R : List (List UInt8)) (at_ place ep : Nat) : Option (List UInt8 × Nat × Nat) :=
  match lk R at_ with
  | none => none
  | some f => if f.pl ≠ place + 1 ∨ f.pt ≠ 0 ∨ f.pn < 1 ∨ 92 < f.pn ∨ f.ep < ep then none else (gath R at_ f f.pn 0).map fun b => (b, f.pn, f.ep)
def openLoop (R : List (List UInt8)) : Nat → List (List UInt8) → Nat → Nat → List (List UInt8) × Nat
  | 0, l, u, _ => (l, u)
  | k + 1, l, u, ep =>
    match recordM R u l.length ep with
    | none => (l, u)
    | some (b, pn, x) => openLoop R k (l ++ [b]) (u + pn) x
def topM (R : List (List UInt8)) : Nat := R.foldl (fun t b => max t (max (num4 b) (num4 (b.drop 60)))) 0

/-- A segment. -/
structure Sg where
  frm : Nat
  n : Nat
  epoch : Nat
  l : List (List UInt8)
  used : Nat
  sure : Nat
  gone : Nat
  e : Int
def regM (D : Dk) (frm n : Nat) : List (List UInt8) := (List.range n).map fun i => (D.read ((frm + i : Nat) : Int)).1
def openR (frm n : Nat) (R : List (List UInt8)) : Sg :=
  ⟨frm, n, topM R + 1, (openLoop R (R.length + 1) [] 0 0).1, (openLoop R (R.length + 1) [] 0 0).2, (openLoop R (R.length + 1) [] 0 0).1.length, 0, 0⟩
/-- May a segment stand there? The error. -/
def openE (D : Dk) (frm n : Int) : Int :=
  if frm < 0 ∨ n < 1 ∨ (D.l.length : Int) < frm ∨ (D.l.length : Int) - frm < n then 1
  else if D.down then 20
  else if 4294967295 ≤ topM (regM D frm.toNat n.toNat) then 37
  else 0
def openS (D : Dk) (frm n : Int) : Sg := openR frm.toNat n.toNat (regM D frm.toNat n.toNat)

/-- Writing the parts from the i-th on, n of them. -/
def wrM (S : Sg) (b : List UInt8) (many : Nat) : Nat → Nat → Dk → Dk × Int
  | 0, _, D => (D, 0)
  | n + 1, i, D =>
    if (D.write ((S.frm + S.used + i : Nat) : Int) (blkL S.epoch (S.l.length + 1) i many (piece b i))).2 ≠ 0 then D.write ((S.frm + S.used + i : Nat) : Int) (blkL S.epoch (S.l.length + 1) i many (piece b i))
    else wrM S b many n (i + 1) (D.write ((S.frm + S.used + i : Nat) : Int) (blkL S.epoch (S.l.length + 1) i many (piece b i))).1
def appM (D : Dk) (S : Sg) (b : List UInt8) : Dk × Sg × Nat × Int :=
  if 4096 < b.length then (D, S, 0, 13)
  else if S.e ≠ 0 then (D, S, 0, S.e)
  else if (S.n : Int) - S.used < needM b.length then (D, S, 0, 21)
  else if (wrM S b (needM b.length) (needM b.length) 0 D).2 ≠ 0 then ((wrM S b (needM b.length) (needM b.length) 0 D).1, { S with e := (wrM S b (needM b.length) (needM b.length) 0 D).2 }, 0, (wrM S b (needM b.length) (needM b.length) 0 D).2)
  else ((wrM S b (needM b.length) (needM b.length) 0 D).1, { S with l := S.l ++ [b], used := S.used + needM b.length }, S.l.length, 0)
def synM (D : Dk) (S : Sg) : Dk × Sg × Int :=
  if S.e ≠ 0 then (D, S, S.e)
  else if D.sync.2 ≠ 0 then (D.sync.1, { S with e := D.sync.2 }, D.sync.2)
  else (D.sync.1, { S with sure := S.l.length }, 0)
def redM (S : Sg) (k : Int) : List UInt8 × Int :=
  if k < 0 ∨ (S.l.length : Int) ≤ k then ([], 15)
  else if k < S.gone then ([], 35)
  else (S.l.getD k.toNat [], 0)
def trmM (S : Sg) (k : Int) : Sg := { S with gone := (max (S.gone : Int) (min k S.sure)).toNat }

/-! ### A part that was laid is read -/
theorem four_len (x : Nat) : (four x).length = 4 := rfl
theorem zs_len (n : Nat) : (zs n).length = n := by simp [zs]
theorem val_four {x : Nat} (h : x < 4294967296) : val (four x) = x := by
  simp only [four, val, List.foldl_cons, List.foldl_nil, UInt8.toNat_ofNat']
  omega
theorem rowS_len (ep pl pt pn : Nat) (b : List UInt8) (h : b.length ≤ 45) : (rowS ep pl pt pn b).length = 56 := by
  simp only [rowS, List.length_append, List.length_cons, four_len, zs_len]; omega
theorem blkL_len (ep pl pt pn : Nat) (b : List UInt8) (h : b.length ≤ 45) : (blkL ep pl pt pn b).length = 64 := by
  rw [blkL, List.length_append, sealedL_len, rowS_len _ _ _ _ _ h, four_len]
theorem blkL_form (ep pl pt pn : Nat) (b : List UInt8) : ∃ r, blkL ep pl pt pn b = four ep ++ (four pl ++ (UInt8.ofNat pt :: UInt8.ofNat pn :: UInt8.ofNat b.length :: (b ++ r))) :=
  ⟨zs (45 - b.length) ++ (four (sumR [rowS ep pl pt pn b]) ++ four ep), by simp [blkL, sealedL, rowS]⟩
theorem blkL_take60 (ep pl pt pn : Nat) (b : List UInt8) (h : b.length ≤ 45) : (blkL ep pl pt pn b).take 60 = sealedL (rowS ep pl pt pn b) := by
  rw [blkL, List.take_left' (by rw [sealedL_len, rowS_len _ _ _ _ _ h])]
theorem blkL_drop60 (ep pl pt pn : Nat) (b : List UInt8) (h : b.length ≤ 45) : (blkL ep pl pt pn b).drop 60 = four ep := by
  rw [blkL, List.drop_left' (by rw [sealedL_len, rowS_len _ _ _ _ _ h])]
theorem blkL_take4 (ep pl pt pn : Nat) (b : List UInt8) : (blkL ep pl pt pn b).take 4 = four ep := by
  obtain ⟨r, hr⟩ := blkL_form ep pl pt pn b
  rw [hr, List.take_left' (four_len ep)]
theorem blkL_right (ep pl pt pn : Nat) (b : List UInt8) (h : b.length ≤ 45) : rightB (blkL ep pl pt pn b) = true := by
  unfold rightB
  rw [blkL_take4, blkL_drop60 _ _ _ _ _ h, blkL_take60 _ _ _ _ _ h, right_sealed]
  simp
theorem toNat_of (k : Nat) (h : k < 256) : (UInt8.ofNat k).toNat = k := by
  rw [UInt8.toNat_ofNat']; omega
theorem read_blk {ep pl pt pn : Nat} {b : List UInt8} (h : b.length ≤ 45) (he : ep < 4294967296) (hp : pl < 4294967296) (h1 : pt < 256) (h2 : pn < 256) : readB (blkL ep pl pt pn b) = some ⟨ep, pl, pt, pn, b⟩ := by
  have hr := blkL_right ep pl pt pn b h
  obtain ⟨r, hf⟩ := blkL_form ep pl pt pn b
  have h8 : (blkL ep pl pt pn b).getD 8 0 = UInt8.ofNat pt := by rw [hf]; rfl
  have h9 : (blkL ep pl pt pn b).getD 9 0 = UInt8.ofNat pn := by rw [hf]; rfl
  have h10 : (blkL ep pl pt pn b).getD 10 0 = UInt8.ofNat b.length := by rw [hf]; rfl
  have hd : (blkL ep pl pt pn b).drop 11 = b ++ r := by rw [hf]; rfl
  have hd4 : ((blkL ep pl pt pn b).drop 4).take 4 = four pl := by rw [hf]; rfl
  unfold readB
  rw [if_pos ⟨hr, by rw [h10, toNat_of _ (by omega)]; omega⟩]
  unfold bkOf num4
  rw [blkL_take4, hd4, h8, h9, h10, hd, val_four he, val_four hp, toNat_of _ h1, toNat_of _ h2, toNat_of _ (by omega), Nat.min_eq_left h, List.take_left' rfl]

/-! ### The parts of a record -/
theorem piece_len (b : List UInt8) (i : Nat) : (piece b i).length ≤ 45 := by unfold piece; rw [List.length_take]; omega
theorem piece_full (b : List UInt8) (i : Nat) (h : 45 * i + 45 ≤ b.length) : (piece b i).length = 45 := by
  unfold piece; rw [List.length_take, List.length_drop]; omega
theorem piece_pos (b : List UInt8) (i : Nat) (h : 45 * i < b.length) : 0 < (piece b i).length := by
  unfold piece; rw [List.length_take, List.length_drop]; omega
theorem piece_rest (b : List UInt8) (i : Nat) : b.drop (45 * i) = piece b i ++ b.drop (45 * (i + 1)) := by
  unfold piece
  rw [show b.drop (45 * (i + 1)) = (b.drop (45 * i)).drop 45 by rw [List.drop_drop, show 45 * (i + 1) = 45 * i + 45 by omega], List.take_append_drop]
theorem need_le {n : Nat} (h : n ≤ 4096) : needM n ≤ 92 ∧ 1 ≤ needM n := by unfold needM; omega
theorem need_all (b : List UInt8) : b.drop (45 * needM b.length) = [] := List.drop_of_length_le (by unfold needM; omega)
/-- What the i-th piece is of. -/
theorem need_in {n i : Nat} (h : i + 1 < needM n) : 45 * i + 45 ≤ n := by unfold needM at h; omega
theorem need_last {n i : Nat} (h : i + 1 = needM n) (hi : 0 < i) : 45 * i < n := by unfold needM at h; omega

/-- The blocks of a record, as they are laid. -/
def LaidAt (R : List (List UInt8)) (u place ep : Nat) (b : List UInt8) : Prop := ∀ j, j < needM b.length → R[u + j]? = some (blkL ep (place + 1) j (needM b.length) (piece b j))
theorem lk_laid {R : List (List UInt8)} {u place ep : Nat} {b : List UInt8} (h : LaidAt R u place ep b) (hb : b.length ≤ 4096) (he : ep < 4294967296) (hp : place + 1 < 4294967296) (j : Nat) (hj : j < needM b.length) :
    lk R (u + j) = some ⟨ep, place + 1, j, needM b.length, piece b j⟩ := by
  have := need_le hb
  unfold lk
  rw [h j hj]
  exact read_blk (piece_len b j) he hp (by omega) (by omega)
theorem gath_laid {R : List (List UInt8)} {u place ep : Nat} {b : List UInt8} (h : LaidAt R u place ep b) (hb : b.length ≤ 4096) (he : ep < 4294967296) (hp : place + 1 < 4294967296) (p0 : List UInt8) :
    ∀ n i, i + n = needM b.length → gath R u ⟨ep, place + 1, 0, needM b.length, p0⟩ n i = some (b.drop (45 * i))
  | 0, i, hi => by
    rw [gath, show i = needM b.length by omega, need_all]
  | n + 1, i, hi => by
    rw [gath, lk_laid h hb he hp i (by omega)]
    simp only
    rw [if_neg (by simp), if_neg, gath_laid h hb he hp p0 n (i + 1) (by omega), Option.map_some, ← piece_rest]
    rintro (⟨h1, h2⟩ | ⟨h1, h2, h3⟩)
    · have := piece_full b i (need_in h1); omega
    · have := piece_pos b i (need_last h1 h3); omega
theorem record_laid {R : List (List UInt8)} {u place ep : Nat} {b : List UInt8} (h : LaidAt R u place ep b) (hb : b.length ≤ 4096) (he : ep < 4294967296) (hp : place + 1 < 4294967296) {ep0 : Nat} (h0 : ep0 ≤ ep) :
    recordM R u place ep0 = some (b, needM b.length, ep) := by
  have hn := need_le hb
  unfold recordM
  have h1 := lk_laid h hb he hp 0 (by omega)
  rw [Nat.add_zero] at h1
  rw [h1]
  simp only
  rw [if_neg (by omega), gath_laid h hb he hp _ _ 0 (by omega)]
  simp

/-- A record that is found lies inside. -/
theorem gath_in {R : List (List UInt8)} {u : Nat} {f : Bk} : ∀ n i {b : List UInt8}, gath R u f n i = some b → ∀ j, i ≤ j → j < i + n → ∃ x, lk R (u + j) = some x ∧ x.pl = f.pl ∧ x.ep = f.ep ∧ x.pt = j ∧ x.pn = f.pn
  | 0, i, b, _, j, h1, h2 => by omega
  | n + 1, i, b, h, j, h1, h2 => by
    rw [gath] at h
    cases hx : lk R (u + i) with
    | none => rw [hx] at h; cases h
    | some x =>
      rw [hx] at h
      simp only at h
      by_cases hc : x.pl ≠ f.pl ∨ x.ep ≠ f.ep ∨ x.pt ≠ i ∨ x.pn ≠ f.pn
      · rw [if_pos hc] at h; cases h
      rw [if_neg hc] at h
      split at h
      · cases h
      · by_cases hj : j = i
        · subst hj
          exact ⟨x, hx, by omega, by omega, by omega, by omega⟩
        · cases hg : gath R u f n (i + 1) with
          | none => rw [hg] at h; cases h
          | some b' => exact gath_in n (i + 1) hg j (by omega) (by omega)
theorem lk_lt {R : List (List UInt8)} {i : Nat} {x : Bk} (h : lk R i = some x) : i < R.length := by
  unfold lk at h
  cases hr : R[i]? with
  | none => rw [hr] at h; cases h
  | some b => exact (List.getElem?_eq_some_iff.1 hr).1
theorem record_in {R : List (List UInt8)} {u place ep : Nat} {b : List UInt8} {pn x : Nat} (h : recordM R u place ep = some (b, pn, x)) :
    1 ≤ pn ∧ pn ≤ 92 ∧ u + pn ≤ R.length ∧ ep ≤ x ∧ ∃ f, lk R u = some f ∧ f.ep = x ∧ f.pn = pn ∧ f.pl = place + 1 ∧ f.pt = 0 ∧ gath R u f pn 0 = some b := by
  unfold recordM at h
  cases hf : lk R u with
  | none => rw [hf] at h; cases h
  | some f =>
    rw [hf] at h
    simp only at h
    by_cases hc : f.pl ≠ place + 1 ∨ f.pt ≠ 0 ∨ f.pn < 1 ∨ 92 < f.pn ∨ f.ep < ep
    · rw [if_pos hc] at h; cases h
    rw [if_neg hc] at h
    cases hg : gath R u f f.pn 0 with
    | none => rw [hg] at h; cases h
    | some b' =>
      rw [hg] at h
      simp only [Option.map_some, Option.some.injEq, Prod.mk.injEq] at h
      obtain ⟨rfl, rfl, rfl⟩ := h
      obtain ⟨y, hy, _⟩ := gath_in f.pn 0 hg (f.pn - 1) (by omega) (by omega)
      have := lk_lt hy
      exact ⟨by omega, by omega, by omega, by omega, f, rfl, rfl, rfl, by omega, by omega, hg⟩

/-- Going on from anywhere: as many rounds as there may be. -/
theorem open_fuel {R : List (List UInt8)} : ∀ k k' l u ep, R.length + 1 ≤ u + k → R.length + 1 ≤ u + k' → openLoop R k l u ep = openLoop R k' l u ep
  | 0, 0, l, u, ep, _, _ => rfl
  | 0, k' + 1, l, u, ep, h, h' => by
    rw [openLoop, openLoop]
    cases hr : recordM R u l.length ep with
    | none => rfl
    | some p => obtain ⟨b, pn, x⟩ := p; have := record_in hr; omega
  | k + 1, 0, l, u, ep, h, h' => by
    rw [openLoop, openLoop]
    cases hr : recordM R u l.length ep with
    | none => rfl
    | some p => obtain ⟨b, pn, x⟩ := p; have := record_in hr; omega
  | k + 1, k' + 1, l, u, ep, h, h' => by
    rw [openLoop, openLoop]
    cases hr : recordM R u l.length ep with
    | none => rfl
    | some p =>
      obtain ⟨b, pn, x⟩ := p
      have := record_in hr
      exact open_fuel k k' _ _ _ (by omega) (by omega)
theorem open_bound {R : List (List UInt8)} : ∀ (k : Nat) (l : List (List UInt8)) (u ep : Nat), u ≤ R.length → (openLoop R k l u ep).2 ≤ R.length ∧ (openLoop R k l u ep).1.length + u ≤ (openLoop R k l u ep).2 + l.length
  | 0, l, u, ep, h => by rw [openLoop]; exact ⟨h, by simp only; omega⟩
  | k + 1, l, u, ep, h => by
    rw [openLoop]
    cases hr : recordM R u l.length ep with
    | none => exact ⟨h, by simp only; omega⟩
    | some p =>
      obtain ⟨b, pn, x⟩ := p
      obtain ⟨h1, _, h4, _⟩ := record_in hr
      have hh := open_bound k (l ++ [b]) (u + pn) x (by omega)
      rw [List.length_append, List.length_singleton] at hh
      simp only at hh ⊢
      omega
end Go.Proofs.Ytjfidhjnbcmhfaa
