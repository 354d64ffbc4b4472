/- Segments on a disk that is written, synced, crashed: plain laws. -/
import Derived.Test.YtjfidhjnbcmhfaaSgm
namespace Go.Proofs.Ytjfidhjnbcmhfaa
open Go.NB (Dk val)
open Go.NB.Crc

/-! ### Writes one behind the other -/
def ws : Nat → List (List UInt8) → List (Nat × List UInt8)
  | _, [] => []
  | u, b :: t => (u, b) :: ws (u + 1) t
theorem ws_len : ∀ (u : Nat) (B : List (List UInt8)), (ws u B).length = B.length
  | _, [] => rfl
  | u, b :: t => by simp [ws, ws_len (u + 1) t]
theorem ws_app : ∀ (u : Nat) (A B : List (List UInt8)), ws u (A ++ B) = ws u A ++ ws (u + A.length) B
  | u, [], B => by simp [ws]
  | u, a :: A, B => by
    simp only [List.cons_append, ws, ws_app (u + 1) A B, List.length_cons]
    rw [show u + 1 + A.length = u + (A.length + 1) by omega]
theorem lay_at : ∀ (B : List (List UInt8)) (l : List (List UInt8)) (u i : Nat), u + B.length ≤ l.length → (Dk.lay l (ws u B))[i]? = if u ≤ i ∧ i < u + B.length then B[i - u]? else l[i]?
  | [], l, u, i, _ => by
    rw [if_neg (by rintro ⟨h1, h2⟩; simp at h2; omega)]; rfl
  | b :: t, l, u, i, h => by
    have e : Dk.lay l (ws u (b :: t)) = Dk.lay (l.set u b) (ws (u + 1) t) := rfl
    rw [List.length_cons] at h ⊢
    rw [e, lay_at t _ (u + 1) i (by rw [List.length_set]; omega)]
    by_cases h1 : u + 1 ≤ i ∧ i < u + 1 + t.length
    · rw [if_pos h1, if_pos (by omega), show i - u = (i - (u + 1)) + 1 by omega, List.getElem?_cons_succ]
    · rw [if_neg h1]
      by_cases h2 : i = u
      · subst h2
        rw [if_pos (by omega), Nat.sub_self, List.getElem?_set_self (by omega)]; rfl
      · rw [if_neg (by omega), List.getElem?_set_ne (by omega)]
theorem tears_at : ∀ (B : List (List UInt8)) (l : List (List UInt8)) (u i : Nat) (pick : List UInt8), u + B.length ≤ l.length →
    (Dk.tears l (ws u B) pick)[i]? = if u ≤ i ∧ i < u + B.length ∧ i < u + pick.length then (B[i - u]?).map fun b => b.take ((pick.getD (i - u) 0).toNat % 65) ++ (l.getD i []).drop ((pick.getD (i - u) 0).toNat % 65) else l[i]?
  | [], l, u, i, pick, _ => by
    rw [if_neg (by simp; omega)]; simp [ws, Dk.tears]
  | b :: t, l, u, i, [], _ => by
    rw [if_neg (by simp; omega)]; simp [ws, Dk.tears]
  | b :: t, l, u, i, c :: pick, h => by
    have e : Dk.tears l (ws u (b :: t)) (c :: pick) = Dk.tears (Dk.tear l (u, b) (c.toNat % 65)) (ws (u + 1) t) pick := rfl
    rw [List.length_cons] at h ⊢
    have hl : (Dk.tear l (u, b) (c.toNat % 65)).length = l.length := by simp [Dk.tear]
    rw [e, tears_at t _ (u + 1) i pick (by rw [hl]; omega), List.length_cons]
    by_cases h1 : u + 1 ≤ i ∧ i < u + 1 + t.length ∧ i < u + 1 + pick.length
    · rw [if_pos h1, if_pos (by omega), show i - u = (i - (u + 1)) + 1 by omega, List.getElem?_cons_succ]
      have hg : (Dk.tear l (u, b) (c.toNat % 65)).getD i [] = l.getD i [] := by
        simp only [Dk.tear, List.getD_eq_getElem?_getD]
        rw [List.getElem?_set_ne (by omega)]
      have hp : (c :: pick).getD (i - (u + 1) + 1) 0 = pick.getD (i - (u + 1)) 0 := rfl
      rw [hg, hp]
    · rw [if_neg h1]
      by_cases h2 : i = u
      · subst h2
        rw [if_pos (by omega), Nat.sub_self]
        simp only [Dk.tear]
        rw [List.getElem?_set_self (by omega)]
        rfl
      · rw [if_neg (by omega)]
        simp only [Dk.tear]
        rw [List.getElem?_set_ne (by omega)]

/-! ### Records one behind the other -/
def partsL (E p : Nat) (b : List UInt8) : Nat → Nat → List (List UInt8)
  | 0, _ => []
  | n + 1, i => blkL E (p + 1) i (needM b.length) (piece b i) :: partsL E p b n (i + 1)
theorem partsL_len (E p : Nat) (b : List UInt8) : ∀ n i, (partsL E p b n i).length = n
  | 0, _ => rfl
  | n + 1, i => by simp [partsL, partsL_len E p b n (i + 1)]
theorem partsL_at (E p : Nat) (b : List UInt8) : ∀ n i k, k < n → (partsL E p b n i)[k]? = some (blkL E (p + 1) (i + k) (needM b.length) (piece b (i + k)))
  | 0, _, k, h => by omega
  | n + 1, i, 0, _ => rfl
  | n + 1, i, k + 1, h => by
    rw [partsL, List.getElem?_cons_succ, partsL_at E p b n (i + 1) k (by omega), show i + 1 + k = i + (k + 1) by omega]
def nblk : List (List UInt8) → Nat
  | [] => 0
  | b :: t => needM b.length + nblk t
theorem nblk_app : ∀ (A B : List (List UInt8)), nblk (A ++ B) = nblk A + nblk B
  | [], B => by simp [nblk]
  | a :: A, B => by simp only [List.cons_append, nblk, nblk_app A B]; omega
def blksOf (E : Nat) : Nat → List (List UInt8) → List (List UInt8)
  | _, [] => []
  | p, b :: t => partsL E p b (needM b.length) 0 ++ blksOf E (p + 1) t
theorem blks_len (E : Nat) : ∀ (p : Nat) (l : List (List UInt8)), (blksOf E p l).length = nblk l
  | _, [] => rfl
  | p, b :: t => by rw [blksOf, List.length_append, partsL_len, blks_len E (p + 1) t, nblk]
theorem blks_app (E : Nat) : ∀ (p : Nat) (A B : List (List UInt8)), blksOf E p (A ++ B) = blksOf E p A ++ blksOf E (p + A.length) B
  | p, [], B => by simp [blksOf]
  | p, a :: A, B => by
    simp only [List.cons_append, blksOf, blks_app E (p + 1) A B, List.length_cons, List.append_assoc]
    rw [show p + 1 + A.length = p + (A.length + 1) by omega]

abbrev Rec := List UInt8 × Nat
def LaidR (R : List (List UInt8)) : Nat → Nat → List Rec → Prop
  | _, _, [] => True
  | p, u, r :: t => (LaidAt R u p r.2 r.1 ∧ r.1.length ≤ 4096 ∧ r.2 < 4294967296) ∧ LaidR R (p + 1) (u + needM r.1.length) t
def Rise : Nat → List Rec → Prop
  | _, [] => True
  | e, r :: t => e ≤ r.2 ∧ Rise r.2 t
def lastE : Nat → List Rec → Nat
  | e, [] => e
  | _, r :: t => lastE r.2 t
theorem laidR_app {R : List (List UInt8)} : ∀ (A B : List Rec) (p u : Nat), LaidR R p u (A ++ B) ↔ LaidR R p u A ∧ LaidR R (p + A.length) (u + nblk (A.map (·.1))) B
  | [], B, p, u => by simp [LaidR, nblk]
  | a :: A, B, p, u => by
    simp only [List.cons_append, LaidR, laidR_app A B, List.map_cons, nblk, List.length_cons]
    rw [show p + 1 + A.length = p + (A.length + 1) by omega, show u + needM a.1.length + nblk (A.map (·.1)) = u + (needM a.1.length + nblk (A.map (·.1))) by omega]
    exact and_assoc.symm
theorem rise_app : ∀ (A B : List Rec) (e : Nat), Rise e (A ++ B) ↔ Rise e A ∧ Rise (lastE e A) B
  | [], B, e => by simp [Rise, lastE]
  | a :: A, B, e => by simp only [List.cons_append, Rise, lastE, rise_app A B, and_assoc]
theorem lastE_app : ∀ (A B : List Rec) (e : Nat), lastE e (A ++ B) = lastE (lastE e A) B
  | [], _, _ => rfl
  | a :: A, B, _ => lastE_app A B a.2
theorem rise_same (E : Nat) : ∀ (W : List (List UInt8)) (e : Nat), e ≤ E → Rise e (W.map fun b => (b, E)) ∧ lastE e (W.map fun b => (b, E)) = if W = [] then e else E
  | [], e, _ => ⟨trivial, rfl⟩
  | b :: W, e, h => by
    obtain ⟨h1, h2⟩ := rise_same E W E (Nat.le_refl _)
    refine ⟨⟨h, h1⟩, ?_⟩
    simp only [List.map_cons, lastE, h2]
    split <;> simp
theorem lastE_le {E : Nat} : ∀ (A : List Rec) (e : Nat), e ≤ E → (∀ r ∈ A, r.2 ≤ E) → lastE e A ≤ E
  | [], e, h, _ => h
  | a :: A, e, _, h => lastE_le A a.2 (h a (by simp)) (fun r hr => h r (by simp [hr]))

/-- What is laid is read, and then it goes on behind it. -/
theorem open_laid {R : List (List UInt8)} : ∀ (recs : List Rec) (l : List (List UInt8)) (u e k k' : Nat), LaidR R l.length u recs → Rise e recs → l.length + recs.length < 4294967296 → R.length + 1 ≤ u + k → R.length + 1 ≤ k' →
    openLoop R k l u e = openLoop R k' (l ++ recs.map (·.1)) (u + nblk (recs.map (·.1))) (lastE e recs)
  | [], l, u, e, k, k', _, _, _, h, h' => by
    simp only [List.map_nil, List.append_nil, nblk, Nat.add_zero, lastE]
    exact open_fuel k k' l u e h (by omega)
  | r :: t, l, u, e, k, k', hl, hr, hn, h, h' => by
    obtain ⟨⟨h1, h2, h3⟩, h4⟩ := hl
    obtain ⟨h5, h6⟩ := hr
    rw [List.length_cons] at hn
    have hrec := record_laid h1 h2 h3 (by omega) h5
    have hin := record_in hrec
    cases k with
    | zero => omega
    | succ k =>
      rw [openLoop, hrec]
      simp only
      rw [open_laid t (l ++ [r.1]) (u + needM r.1.length) r.2 k k' (by rw [List.length_append]; exact h4) h6 (by rw [List.length_append, List.length_singleton]; omega) (by omega) h']
      simp only [List.map_cons, nblk, lastE, List.append_assoc, List.singleton_append, Nat.add_assoc]
theorem open_stop {R : List (List UInt8)} (k : Nat) (l : List (List UInt8)) (u e : Nat) (h : recordM R u l.length e = none) : openLoop R k l u e = (l, u) := by
  cases k with
  | zero => rfl
  | succ k => rw [openLoop, h]

/-! ### Blocks with small stamps -/
structure Zb (E : Nat) (b : List UInt8) : Prop where
  len : b.length = 64
  z1 : b.take 3 = zs 3
  z2 : (b.drop 60).take 3 = zs 3
  le1 : num4 b ≤ E
  le2 : num4 (b.drop 60) ≤ E
theorem Zb.mono {E E' : Nat} {b : List UInt8} (h : Zb E b) (hE : E ≤ E') : Zb E' b := ⟨h.len, h.z1, h.z2, Nat.le_trans h.le1 hE, Nat.le_trans h.le2 hE⟩
theorem four_small {E : Nat} (h : E < 256) : (four E).take 3 = zs 3 := by
  simp only [four, List.take_succ_cons, List.take_zero, zs, List.replicate]
  rw [show E / 16777216 = 0 by omega, show E / 65536 = 0 by omega, show E / 256 = 0 by omega]
  rfl
theorem num4_blk {ep pl pt pn : Nat} {b : List UInt8} (he : ep < 4294967296) : num4 (blkL ep pl pt pn b) = ep := by unfold num4; rw [blkL_take4, val_four he]
theorem num4_tail {ep pl pt pn : Nat} {b : List UInt8} (h : b.length ≤ 45) (he : ep < 4294967296) : num4 ((blkL ep pl pt pn b).drop 60) = ep := by
  unfold num4; rw [blkL_drop60 _ _ _ _ _ h, List.take_of_length_le (by rw [four_len]; omega), val_four he]
theorem zb_blk {ep pl pt pn : Nat} {b : List UInt8} (h : b.length ≤ 45) (he : ep < 256) : Zb ep (blkL ep pl pt pn b) where
  len := blkL_len _ _ _ _ _ h
  z1 := by
    have : (blkL ep pl pt pn b).take 3 = ((blkL ep pl pt pn b).take 4).take 3 := by rw [List.take_take]; rfl
    rw [this, blkL_take4, four_small he]
  z2 := by rw [blkL_drop60 _ _ _ _ _ h, four_small he]
  le1 := by rw [num4_blk (by omega)]; exact Nat.le_refl _
  le2 := by rw [num4_tail h (by omega)]; exact Nat.le_refl _
theorem zb_zero (E : Nat) : Zb E (List.replicate 64 0) where
  len := by simp
  z1 := by decide
  z2 := by decide
  le1 := by rw [show num4 (List.replicate 64 0) = 0 by decide]; omega
  le2 := by rw [show num4 ((List.replicate 64 0).drop 60) = 0 by decide]; omega
/-- A block over which so much of another one was laid. -/
def tornB (L O : List UInt8) (n : Nat) : List UInt8 := L.take n ++ O.drop n
theorem num4_eq {a b : List UInt8} (h : a.take 4 = b.take 4) : num4 a = num4 b := by unfold num4; rw [h]
theorem torn_cases {E : Nat} {L O : List UInt8} (hL : Zb E L) (hO : Zb E O) (hl : num4 L = E) (ho : num4 (O.drop 60) < E) (n : Nat) (hn : n ≤ 64) :
    (tornB L O n = O ∨ tornB L O n = L ∨ rightB (tornB L O n) = false) ∧ Zb E (tornB L O n) := by
  have hlen : (tornB L O n).length = 64 := by
    unfold tornB; rw [List.length_append, List.length_take, List.length_drop, hL.len, hO.len]; omega
  by_cases h3 : n ≤ 3
  · have e : tornB L O n = O := by
      unfold tornB
      have h1 : L.take n = O.take n := by
        have a1 : L.take n = (L.take 3).take n := by rw [List.take_take, Nat.min_eq_left h3]
        have a2 : O.take n = (O.take 3).take n := by rw [List.take_take, Nat.min_eq_left h3]
        rw [a1, a2, hL.z1, hO.z1]
      rw [h1, List.take_append_drop]
    rw [e]
    exact ⟨.inl rfl, hO⟩
  by_cases h64 : n = 64
  · have e : tornB L O n = L := by
      unfold tornB
      rw [List.take_of_length_le (by rw [hL.len]; omega), List.drop_of_length_le (by rw [hO.len]; omega), List.append_nil]
    rw [e]
    exact ⟨.inr (.inl rfl), hL⟩
  have hf : (tornB L O n).take 4 = L.take 4 := by
    unfold tornB
    rw [List.take_append_of_le_length (by rw [List.length_take, hL.len]; omega), List.take_take, Nat.min_eq_left (by omega)]
  have hf3 : (tornB L O n).take 3 = zs 3 := by
    have : (tornB L O n).take 3 = ((tornB L O n).take 4).take 3 := by rw [List.take_take]; rfl
    rw [this, hf, List.take_take]
    exact hL.z1
  have hb : (tornB L O n).drop 60 = O.drop 60 := by
    unfold tornB
    rw [List.drop_append, List.length_take, hL.len, Nat.min_eq_left hn]
    by_cases h60 : n ≤ 60
    · rw [List.drop_of_length_le (by rw [List.length_take]; omega), List.nil_append, List.drop_drop, show n + (60 - n) = 60 by omega]
    · rw [List.drop_take, show 60 - n = 0 by omega, List.drop_zero]
      have a1 : (L.drop 60).take (n - 60) = (O.drop 60).take (n - 60) := by
        have b1 : (L.drop 60).take (n - 60) = ((L.drop 60).take 3).take (n - 60) := by rw [List.take_take, Nat.min_eq_left (by omega)]
        have b2 : (O.drop 60).take (n - 60) = ((O.drop 60).take 3).take (n - 60) := by rw [List.take_take, Nat.min_eq_left (by omega)]
        rw [b1, b2, hL.z2, hO.z2]
      have a2 : O.drop n = (O.drop 60).drop (n - 60) := by rw [List.drop_drop, show 60 + (n - 60) = n by omega]
      rw [a1, a2, List.take_append_drop]
  have hn4 : num4 (tornB L O n) = E := (num4_eq hf).trans hl
  refine ⟨.inr (.inr ?_), ⟨hlen, hf3, by rw [hb]; exact hO.z2, by omega, by rw [hb]; omega⟩⟩
  unfold rightB
  have : (tornB L O n).take 4 ≠ (tornB L O n).drop 60 := by
    intro h
    have h2 : num4 ((tornB L O n).drop 60) = E := by
      unfold num4
      rw [← h, List.take_take]
      exact hn4
    rw [hb] at h2
    omega
  simp [this]

/-- A right block bears its stamp's number. -/
theorem lk_num {R : List (List UInt8)} {i : Nat} {x : Bk} (h : lk R i = some x) : ∃ b, R[i]? = some b ∧ rightB b = true ∧ x.ep = num4 b := by
  unfold lk at h
  cases hr : R[i]? with
  | none => rw [hr] at h; cases h
  | some b =>
    rw [hr] at h
    simp only [Option.bind_some] at h
    unfold readB at h
    by_cases hc : rightB b = true ∧ (b.getD 10 0).toNat ≤ 45
    · rw [if_pos hc] at h
      cases h
      exact ⟨b, rfl, hc.1, rfl⟩
    · rw [if_neg hc] at h; cases h
theorem gath_congr {R R' : List (List UInt8)} {u : Nat} {f : Bk} : ∀ n i, (∀ j, i ≤ j → j < i + n → lk R (u + j) = lk R' (u + j)) → gath R u f n i = gath R' u f n i
  | 0, _, _ => rfl
  | n + 1, i, h => by
    rw [gath, gath, h i (Nat.le_refl _) (by omega), gath_congr n (i + 1) (fun j h1 h2 => h j (by omega) (by omega))]
theorem record_congr {R R' : List (List UInt8)} {u place ep : Nat} {b : List UInt8} {pn x : Nat} (h : recordM R u place ep = some (b, pn, x)) (hc : ∀ j, j < pn → lk R (u + j) = lk R' (u + j)) : recordM R' u place ep = some (b, pn, x) := by
  obtain ⟨h1, h2, _, h4, f, hf, rfl, rfl, h5, h6, hg⟩ := record_in h
  have h0 := hc 0 (by omega)
  rw [Nat.add_zero] at h0
  unfold recordM
  rw [← h0, hf]
  simp only
  rw [if_neg (by omega), ← gath_congr f.pn 0 (fun j _ hj => hc j (by omega)), hg]
  rfl
theorem laidAt_congr {R R' : List (List UInt8)} {u p e : Nat} {b : List UInt8} (h : LaidAt R u p e b) (hc : ∀ j, j < needM b.length → R[u + j]? = R'[u + j]?) : LaidAt R' u p e b := fun j hj => (hc j hj).symm.trans (h j hj)
theorem laidR_congr {R R' : List (List UInt8)} : ∀ (recs : List Rec) (p u : Nat), LaidR R p u recs → (∀ i, u ≤ i → i < u + nblk (recs.map (·.1)) → R[i]? = R'[i]?) → LaidR R' p u recs
  | [], _, _, _, _ => trivial
  | r :: t, p, u, h, hc => by
    obtain ⟨⟨h1, h2, h3⟩, h4⟩ := h
    rw [List.map_cons, nblk] at hc
    exact ⟨⟨laidAt_congr h1 (fun j hj => hc _ (by omega) (by omega)), h2, h3⟩, laidR_congr t _ _ h4 (fun i hi hi2 => hc i (by omega) (by omega))⟩
end Go.Proofs.Ytjfidhjnbcmhfaa
