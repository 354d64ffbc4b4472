/- A replica whose disk stops at a call, and what stands behind a crash: plain laws. No walk in sight. An entry that is added while the disk may stop: plain laws. No walk in sight. The rows of ReplicaKeeps: what the law has noted of each number. -/
import Derived.Test.YtjfidhjnbcmhfaaRpx4
import Derived.Test.YtjfidhjnbcmhfaaRpx2
namespace Go.Proofs.Ytjfidhjnbcmhfaa
open Go.NB (Dk Ent dknown dat dhit B64 encU encB)
open Go.NB.Crc

def _root_.Go.NB.Dk.run (D : Dk) : Dk := { D with left := -1 }
theorem write_left {D : Dk} (hd : D.down = false) {i : Nat} (hi : i < D.l.length) {b : List UInt8} (hb : b.length = 64) : D.write (i : Int) b = if D.left = 0 then ({ D with down := true }, 20) else ({ D with left := max (D.left - 1) (-1), waits := D.waits ++ [(i, b)] }, 0) := by
  have h0 : D.at_ (i : Int) = 0 := by
    unfold Dk.at_
    rw [hd, if_neg (by simp), if_neg (by omega)]
  unfold Dk.write
  rw [h0, if_neg (by simp), if_neg (by rw [hb]; simp), Int.toNat_natCast]
/-- Writing a record's blocks while the disk may stop. -/
theorem wr_left {S : Sg} {b : List UInt8} : ∀ (n i : Nat) (D : Dk), D.down = false → -1 ≤ D.left → S.frm + S.used + i + n ≤ D.l.length →
    wrM S b (needM b.length) n i D = if D.left = -1 ∨ (n : Int) ≤ D.left then ({ D with waits := D.waits ++ ws (S.frm + S.used + i) (partsL S.epoch S.l.length b n i), left := if D.left = -1 then -1 else D.left - n }, 0)
      else ({ D with waits := D.waits ++ (ws (S.frm + S.used + i) (partsL S.epoch S.l.length b n i)).take D.left.toNat, left := 0, down := true }, 20)
  | 0, i, D, hd, hl, _ => by
    rw [if_pos (by omega)]
    obtain ⟨l, w, lf, dn⟩ := D
    simp only [wrM, partsL, ws, List.append_nil, Prod.mk.injEq, and_true, Dk.mk.injEq, true_and]
    split
    · rename_i h; exact h
    · omega
  | n + 1, i, D, hd, hl, hlen => by
    rw [wrM, write_left hd (by omega) (blkL_len _ _ _ _ _ (piece_len _ _))]
    by_cases h0 : D.left = 0
    · rw [if_pos h0, if_pos (by simp), if_neg (by omega), h0]
      obtain ⟨l, w, lf, dn⟩ := D
      simp only at h0
      subst h0
      simp
    · rw [if_neg h0, if_neg (by simp)]
      have hrec := wr_left (S := S) (b := b) n (i + 1) { D with left := max (D.left - 1) (-1), waits := D.waits ++ [(S.frm + S.used + i, blkL S.epoch (S.l.length + 1) i (needM b.length) (piece b i))] } hd (by simp only; omega) (by simp only; omega)
      by_cases h1 : D.left = -1
      · have hm : max (D.left - 1) (-1) = -1 := by omega
        rw [hm] at hrec ⊢
        rw [if_pos (Or.inl h1), if_pos h1]
        refine hrec.trans ?_
        rw [if_pos (Or.inl rfl), if_pos rfl]
        simp only [partsL, ws, List.append_assoc, List.singleton_append, Nat.add_assoc]
      · have hm : max (D.left - 1) (-1) = D.left - 1 := by omega
        rw [hm] at hrec ⊢
        by_cases h2 : ((n + 1 : Nat) : Int) ≤ D.left
        · rw [if_pos (Or.inr h2), if_neg h1]
          refine hrec.trans ?_
          rw [if_pos (Or.inr (by simp only; omega)), if_neg (by simp only; omega)]
          simp only [partsL, ws, List.append_assoc, List.singleton_append, Nat.add_assoc, Prod.mk.injEq, and_true, Dk.mk.injEq, true_and]
          omega
        · rw [if_neg (by omega)]
          refine hrec.trans ?_
          rw [if_neg (by simp only; omega)]
          obtain ⟨t, ht⟩ : ∃ t : Nat, D.left = (t : Int) + 1 := ⟨(D.left - 1).toNat, by omega⟩
          have e1 : (D.left - 1).toNat = t := by omega
          have e2 : D.left.toNat = t + 1 := by omega
          simp only [partsL, ws, List.append_assoc, List.singleton_append, Nat.add_assoc, e1, e2, List.take_succ_cons]
theorem tears_take : ∀ (W : List (Nat × List UInt8)) (t : Nat) (l : List (List UInt8)) (pick : List UInt8), Dk.tears l (W.take t) pick = Dk.tears l W (pick.take t)
  | [], t, l, pick => by cases pick <;> cases t <;> simp [Dk.tears]
  | x :: W, 0, l, pick => by cases pick <;> simp [Dk.tears]
  | x :: W, t + 1, l, [] => by simp [Dk.tears]
  | x :: W, t + 1, l, c :: pick => by
    rw [List.take_succ_cons, List.take_succ_cons]
    show Dk.tears (Dk.tear l x (c.toNat % 65)) (W.take t) pick = Dk.tears (Dk.tear l x (c.toNat % 65)) W (pick.take t)
    exact tears_take W t _ pick

/-! ### The table -/
def tabF : Nat → List En → List Ent
  | _, [] => []
  | i, e :: E => (e.1, e.2.1, (i : Int)) :: tabF (i + 1) E
theorem tab_snoc : ∀ (E : List En) (i : Nat) (x : En), tabF i (E ++ [x]) = tabF i E ++ [(x.1, x.2.1, ((i + E.length : Nat) : Int))]
  | [], i, x => by simp [tabF]
  | e :: E, i, x => by
    rw [List.cons_append, tabF, tab_snoc E (i + 1) x, tabF, List.cons_append, List.length_cons]
    rw [show i + 1 + E.length = i + (E.length + 1) by omega]
theorem tab_len : ∀ (E : List En) (i : Nat), (tabF i E).length = E.length
  | [], _ => rfl
  | e :: E, i => by simp [tabF, tab_len E (i + 1)]
theorem tab_known : ∀ (E : List En) (i : Nat) (c s : Nat), dknown (tabF i E) c s = E.any fun e => e.1 == c && e.2.1 == s
  | [], _, _, _ => rfl
  | e :: E, i, c, s => by
    have h := tab_known E (i + 1) c s
    unfold dknown at h ⊢
    rw [tabF, List.any_cons, h, List.any_cons]
    congr 1
theorem tab_at : ∀ (E : List En) (i : Nat) (c s : Nat), dknown (tabF i E) c s = true → ∃ j, j < E.length ∧ dat (tabF i E) c s = ((i + j : Nat) : Int) ∧ (E.getD j (0, 0, [])).1 = c ∧ (E.getD j (0, 0, [])).2.1 = s
  | [], i, c, s, h => by simp [tabF, dknown] at h
  | e :: E, i, c, s, h => by
    by_cases he : dhit c s (e.1, e.2.1, (i : Int)) = true
    · refine ⟨0, by simp, ?_, ?_⟩
      · unfold dat; rw [tabF, List.find?_cons, he]; rfl
      · simp [dhit] at he; simpa using he
    · have he' : dhit c s (e.1, e.2.1, (i : Int)) = false := by simpa using he
      have h2 : dknown (tabF (i + 1) E) c s = true := by
        unfold dknown at h ⊢
        rw [tabF, List.any_cons, he', Bool.false_or] at h
        exact h
      obtain ⟨j, h3, h4, h5⟩ := tab_at E (i + 1) c s h2
      refine ⟨j + 1, by simp; omega, ?_, by simpa using h5⟩
      have h6 : dat (tabF i (e :: E)) c s = dat (tabF (i + 1) E) c s := by unfold dat; rw [tabF, List.find?_cons, he']
      rw [h6, h4]; congr 1; omega
/-- Entries as ReplicaKeeps has them. -/
structure Ents (E : List En) : Prop where
  ok : ∀ e ∈ E, e.1 = 3 ∧ e.2.1 < 16 ∧ e.2.2.length ≤ 60
  nodup : (E.map (·.2.1)).Nodup
theorem Ents.put {E : List En} (h : Ents E) {e : En} (he : e ∈ E) : putM e = (bytE e, 0) ∧ (bytE e).length ≤ 87 ∧ getM (bytE e) = (e, 0) := by
  obtain ⟨h1, h2, h3⟩ := h.ok e he
  have := put_byt (x := e) (by rw [h1]; decide) (by unfold B64; omega) (by omega)
  exact ⟨this.1, by have := this.2.1; omega, this.2.2⟩
theorem Ents.front {E : List En} (h : Ents E) (k : Nat) : Ents (E.take k) :=
  ⟨fun e he => h.ok e (List.mem_of_mem_take he), by rw [List.map_take]; exact List.Sublist.nodup (List.take_sublist k _) h.nodup⟩
theorem Ents.unknown {E : List En} {x : En} (h : Ents (E ++ [x])) : dknown (tabF 0 E) x.1 x.2.1 = false := by
  rw [tab_known]
  have hn := h.nodup
  rw [List.map_append, List.nodup_append] at hn
  rw [List.any_eq_false]
  intro e he hh
  simp at hh
  exact hn.2.2 e.2.1 (List.mem_map.2 ⟨e, he, rfl⟩) x.2.1 (by simp) hh.2
theorem look_tab {S : Sg} {E : List En} (hl : S.l = E.map bytE) (hE : Ents E) : ∀ (n a : Nat), a + n = E.length → lookM S true n a (tabF 0 (E.take a)) = (tabF 0 E, 0)
  | 0, a, h => by rw [lookM, List.take_of_length_le (by omega)]
  | n + 1, a, h => by
    have ha : a < E.length := by omega
    have hg : S.l.getD a [] = bytE E[a] := by rw [hl, List.getD_eq_getElem?_getD, List.getElem?_map, List.getElem?_eq_getElem ha]; rfl
    have hp := hE.put (List.getElem_mem ha)
    have hsn : E.take (a + 1) = E.take a ++ [E[a]] := List.take_succ_eq_append_getElem ha
    rw [lookM, hg, hp.2.2, if_neg (fun h => h rfl), if_pos rfl]
    have hu : dknown (tabF 0 (E.take a)) E[a].1 E[a].2.1 = false := (show Ents (E.take a ++ [E[a]]) from hsn ▸ hE.front (a + 1)).unknown
    have hnote : (dnote (tabF 0 (E.take a)) E[a].1 E[a].2.1 (a : Int)).1 = tabF 0 (E.take (a + 1)) := by
      unfold dnote
      rw [if_neg (by omega), hu, hsn, tab_snoc, List.length_take, Nat.min_eq_left (by omega), Nat.zero_add]
      rfl
    rw [show ((E[a], (0 : Int)).1.1) = E[a].1 from rfl, show ((E[a], (0 : Int)).1.2.1) = E[a].2.1 from rfl, hnote]
    exact look_tab hl hE n (a + 1) (by omega)

/-! ### The state ahead of each round -/
structure Kst (N L : Nat) (E : List En) (D : Dk) (R : Rp) : Prop where
  down : D.down = false
  left : -1 ≤ D.left
  calm : Calm 120 40 D.run R
  many : R.many = 3
  own : R.own = 0
  open_ : R.sealed = false
  l0 : (R.seg 0).l = E.map bytE
  l1 : (R.seg 1).l = []
  l2 : (R.seg 2).l = []
  ep : ∀ i, i < 3 → (R.seg i).epoch ≤ N + 1
  tab : R.tab = tabF 0 E
  ents : Ents E
  len : E.length ≤ L
theorem Kst.more {N N' L L' : Nat} {E : List En} {D : Dk} {R : Rp} (h : Kst N L E D R) (hN : N ≤ N') (hL : L ≤ L') : Kst N' L' E D R := { h with ep := fun i hi => by have := h.ep i hi; omega, len := by have := h.len; omega }
theorem Kst.stop {N L : Nat} {E : List En} {D : Dk} {R : Rp} (h : Kst N L E D R) (x : Int) : Kst N L E (D.stop x) R := { h with left := by simp only [Dk.stop]; omega, down := h.down, calm := h.calm }
theorem kst_begin : Kst 0 0 [] (Dk.fresh 120) ⟨3, 0, (List.range 3).map (sgF 40), [], false, 0⟩ where
  down := rfl
  left := by show (-1 : Int) ≤ -1; omega
  calm := calm_fresh (m := 120) (n := 40) (M := 3) (O := 0) (by omega) (by omega) (by omega) (by omega) (by omega)
  many := rfl
  own := rfl
  open_ := rfl
  l0 := by rw [seg_fresh (by omega)]; rfl
  l1 := by rw [seg_fresh (by omega)]; rfl
  l2 := by rw [seg_fresh (by omega)]; rfl
  ep := fun i hi => by rw [seg_fresh hi]; exact Nat.le_refl _
  tab := rfl
  ents := ⟨fun e he => (by cases he), List.nodup_nil⟩
  len := Nat.le_refl _
/-- Behind a crash with at most one record that waits. -/
theorem kst_crash {N L : Nat} {D0 Dx : Dk} {R : Rp} (hc : Calm 120 40 D0 R) (hm : R.many = 3) {S : Sg} {recs : List Rec} {W : List (List UInt8)} (hx : Sys Dx S recs W) (hS : S.frm = 0 ∧ S.n = 40 ∧ S.epoch ≤ N + 1) (hl : Dx.l = D0.l) (hep : ∀ i, i < 3 → (R.seg i).epoch ≤ N + 1) (hN : N ≤ 100)
    (l1 : (R.seg 1).l = []) (l2 : (R.seg 2).l = []) {E Ew : List En} (hE : recs.map (·.1) = E.map bytE) (hEw : W = Ew.map bytE) (hok : Ents (E ++ Ew)) (hlen : E.length + Ew.length ≤ L) (pick : List UInt8) :
    ∃ j R', j ≤ Ew.length ∧ ropnM (Dx.crash pick) (0 : Int) (40 : Int) (3 : Int) (0 : Int) = (R', 0) ∧ Kst (N + 1) L (E ++ Ew.take j) (Dx.crash pick) R' := by
  obtain ⟨j, hj, c1, c2, c3, c4⟩ := sys_crash hx (by omega) (by omega) pick
  have hfit := hx.fit
  have hu := hx.used
  rw [hx.l, nblk_app] at hu
  have hrc : Runs (Dx.crash pick) := ⟨rfl, rfl⟩
  have hcl : (Dx.crash pick).l.length = Dx.l.length := Go.NB.tears_len Dx.waits Dx.l pick
  have hout : ∀ k, 40 ≤ k → (Dx.crash pick).l[k]? = D0.l[k]? := fun k hk => by
    show (Dk.tears Dx.l Dx.waits pick)[k]? = _
    rw [hx.waits, tears_at _ _ _ _ _ (by rw [blks_len]; have := hx.reg; omega), if_neg (by rw [blks_len]; omega), hl]
  have oth : ∀ i, 1 ≤ i → i < 3 → openE (Dx.crash pick) ((i * 40 : Nat) : Int) ((40 : Nat) : Int) = 0 ∧ openS (Dx.crash pick) ((i * 40 : Nat) : Int) ((40 : Nat) : Int) = ⟨i * 40, 40, topM (regL (Dx.crash pick).l (i * 40) 40) + 1, (R.seg i).l, (R.seg i).used, (R.seg i).l.length, 0, 0⟩ ∧
      (∃ recs, Sys (Dx.crash pick) (openS (Dx.crash pick) ((i * 40 : Nat) : Int) ((40 : Nat) : Int)) recs []) ∧ (openS (Dx.crash pick) ((i * 40 : Nat) : Int) ((40 : Nat) : Int)).epoch ≤ N + 1 + 1 := fun i h1 h3 => by
    obtain ⟨ri, hsi⟩ := hc.sys i (by rw [hm]; exact h3)
    obtain ⟨ha, hb, _⟩ := hc.at_ i (by rw [hm]; exact h3)
    have hso := sys_other hsi hrc rfl (by rw [hcl, hl]) (fun k k1 _ => hout k (by rw [ha] at k1; omega))
    have hei := hep i h3
    obtain ⟨q1, q2, q3, q4⟩ := sys_again hso (by omega) (by omega)
    rw [ha, hb] at q1 q2 q3 q4
    exact ⟨q1, q2, ⟨_, q3⟩, by omega⟩
  rw [hS.1, hS.2.1] at c1 c2 c3 c4
  have hO : ∀ i, i < 3 → openE (Dx.crash pick) ((i * 40 : Nat) : Int) ((40 : Nat) : Int) = 0 := fun i hi => by
    rcases Nat.eq_zero_or_pos i with h0 | h0
    · subst h0; exact c1
    · exact (oth i h0 hi).1
  have hrl : recs.length = E.length := by have := congrArg List.length hE; simpa using this
  have hSl : S.l.take (recs.length + j) = (E ++ Ew.take j).map bytE := by
    rw [hx.l, hE, hEw, hrl, List.take_append, List.length_map, List.take_of_length_le (l := E.map bytE) (by rw [List.length_map]; omega), show E.length + j - E.length = j by omega, ← List.map_take, List.map_append]
  have hE2 : Ents (E ++ Ew.take j) := by
    have h2 := hok.front (E.length + j)
    rw [List.take_append, List.take_of_length_le (l := E) (by omega), show E.length + j - E.length = j by omega] at h2
    exact h2
  have hS0 : openS (Dx.crash pick) ((0 * 40 : Nat) : Int) ((40 : Nat) : Int) = openS (Dx.crash pick) ((0 : Nat) : Int) ((40 : Nat) : Int) := rfl
  have hl0 : (openS (Dx.crash pick) ((0 : Nat) : Int) ((40 : Nat) : Int)).l = (E ++ Ew.take j).map bytE := by rw [c2]; exact hSl
  obtain ⟨tab', hop, ht, _⟩ := opn_again (D := Dx.crash pick) (n := 40) (M := 3) (O := 0) hO (fun i hi b hb => by
    rcases Nat.eq_zero_or_pos i with h0 | h0
    · subst h0
      rw [hS0, hl0] at hb
      obtain ⟨e, he, rfl⟩ := List.mem_map.1 hb
      rw [(hE2.put he).2.2]
    · rw [(oth i h0 hi).2.1] at hb
      have h3 : i = 1 ∨ i = 2 := by omega
      rcases h3 with rfl | rfl
      · simp only [l1] at hb; cases hb
      · simp only [l2] at hb; cases hb) 3 0 [] [] (by omega)
  have htab : tab' = tabF 0 (E ++ Ew.take j) := by
    rw [ht (Nat.le_refl _) (by omega), hS0]
    have h5 := look_tab (S := openS (Dx.crash pick) ((0 : Nat) : Int) ((40 : Nat) : Int)) hl0 hE2 (E ++ Ew.take j).length 0 (by omega)
    have h6 : (openS (Dx.crash pick) ((0 : Nat) : Int) ((40 : Nat) : Int)).l.length = (E ++ Ew.take j).length := by rw [hl0, List.length_map]
    rw [h6]
    rw [List.take_zero] at h5
    exact congrArg Prod.fst h5
  obtain ⟨R', hR'⟩ : ∃ R' : Rp, R' = ⟨3, 0, [] ++ (List.range' 0 3).map (fun j => openS (Dx.crash pick) ((j * 40 : Nat) : Int) ((40 : Nat) : Int)), tab', false, 0⟩ := ⟨_, rfl⟩
  rw [← hR'] at hop
  have hseg : ∀ i, i < 3 → R'.seg i = openS (Dx.crash pick) ((i * 40 : Nat) : Int) ((40 : Nat) : Int) := fun i hi => by
    have h3 : i = 0 ∨ i = 1 ∨ i = 2 := by omega
    rw [hR']
    rcases h3 with rfl | rfl | rfl <;> rfl
  have hfull : R'.l.length = 3 := by rw [hR']; rfl
  have hmy : R'.many = 3 := by rw [hR']
  refine ⟨j, R', by rw [hEw, List.length_map] at hj; exact hj, ?_, ?_⟩
  · unfold ropnM
    rw [if_neg (by decide)]
    exact hop
  · refine { down := rfl, left := by show (-1 : Int) ≤ -1; omega, calm := ?_, many := hmy, own := by rw [hR'], open_ := by rw [hR'], l0 := ?_, l1 := ?_, l2 := ?_, ep := fun i hi => ?_, tab := by rw [hR']; exact htab, ents := hE2, len := ?_ }
    · have hrun : (Dx.crash pick).run = Dx.crash pick := rfl
      rw [hrun]
      refine { len := by rw [hcl, hl]; exact hc.len, waits := rfl, full := by rw [hfull, hmy], many := by rw [hmy]; omega, own := by rw [hR']; exact Nat.zero_lt_succ _, e := by rw [hR'], sys := fun i hi => ?_, at_ := fun i hi => ?_, big := fun i b hb => ?_ }
      · rw [hmy] at hi
        rw [hseg i hi]
        rcases Nat.eq_zero_or_pos i with h0 | h0
        · subst h0; exact ⟨_, c3⟩
        · exact (oth i h0 hi).2.2.1
      · rw [hmy] at hi
        rw [hseg i hi]
        rcases Nat.eq_zero_or_pos i with h0 | h0
        · subst h0
          rw [hS0, c2]
          exact ⟨rfl, rfl, rfl⟩
        · rw [(oth i h0 hi).2.1]
          exact ⟨rfl, rfl, rfl⟩
      · by_cases hi : i < 3
        · rw [hseg i hi] at hb
          rcases Nat.eq_zero_or_pos i with h0 | h0
          · subst h0
            rw [hS0, hl0] at hb
            obtain ⟨e, he, rfl⟩ := List.mem_map.1 hb
            have := (hE2.put he).2.1
            omega
          · rw [(oth i h0 hi).2.1] at hb
            have h3 : i = 1 ∨ i = 2 := by omega
            rcases h3 with rfl | rfl
            · simp only [l1] at hb; cases hb
            · simp only [l2] at hb; cases hb
        · rw [seg_none (by omega)] at hb; cases hb
    · rw [hseg 0 (by omega), hS0]; exact hl0
    · rw [hseg 1 (by omega), (oth 1 (by omega) (by omega)).2.1]; exact l1
    · rw [hseg 2 (by omega), (oth 2 (by omega) (by omega)).2.1]; exact l2
    · rw [hseg i hi]
      rcases Nat.eq_zero_or_pos i with h0 | h0
      · subst h0
        rw [hS0]
        have h1 := hS.2.2
        have h2 := c4
        omega
      · exact (oth i h0 hi).2.2.2
    · rw [List.length_append, List.length_take]; omega
/-- Ready for a crash. -/
def CrR (N L : Nat) (E : List En) (D : Dk) : Prop := D.waits.length ≤ 1000 ∧ D.l.length = 120 ∧ ∀ pick, ∃ R E', ropnM (D.crash pick) (0 : Int) (40 : Int) (3 : Int) (0 : Int) = (R, 0) ∧ (∃ t, E' = E ++ t) ∧ Kst (N + 1) L E' (D.crash pick) R
theorem Kst.crr {N L : Nat} {E : List En} {D : Dk} {R : Rp} (h : Kst N L E D R) (hN : N ≤ 100) : CrR N L E D := by
  have hw : D.waits = [] := h.calm.waits
  refine ⟨by rw [hw]; exact Nat.zero_le _, h.calm.len, fun pick => ?_⟩
  obtain ⟨recs, hs⟩ := h.calm.sys 0 (by rw [h.many]; omega)
  obtain ⟨ha, hb, _⟩ := h.calm.at_ 0 (by rw [h.many]; omega)
  have hl := hs.l
  rw [List.append_nil] at hl
  obtain ⟨j, R', _, h1, h2⟩ := kst_crash h.calm h.many hs ⟨by omega, hb, h.ep 0 (by omega)⟩ rfl h.ep hN h.l1 h.l2 (E := E) (Ew := []) (by rw [← hl]; exact h.l0) rfl (by rw [List.append_nil]; exact h.ents) (by have := h.len; simp; omega) pick
  exact ⟨R', _, h1, ⟨_, rfl⟩, h2⟩
end Go.Proofs.Ytjfidhjnbcmhfaa
namespace Go.Proofs.Ytjfidhjnbcmhfaa
open Go.NB (Dk Ent dknown dat dhit B64 encU encB)
open Go.NB.Crc

theorem nblk_two : ∀ l : List (List UInt8), (∀ b ∈ l, b.length ≤ 90) → nblk l ≤ 2 * l.length
  | [], _ => Nat.le_refl _
  | b :: l, h => by
    have h1 := nblk_two l (fun c hc => h c (List.mem_cons_of_mem _ hc))
    have h2 := h b (List.mem_cons_self ..)
    have h3 : needM b.length ≤ 2 := by unfold needM; omega
    simp only [nblk, List.length_cons]
    omega
section
variable {N L : Nat} {E : List En} {D : Dk} {R : Rp} {x : En}
theorem Kst.known (h : Kst N L E D R) (hx : x.1 = 3 ∧ x.2.1 < 16 ∧ x.2.2.length ≤ 60) (hk : dknown R.tab x.1 x.2.1 = true) :
    ∃ j, j < E.length ∧ addM D R x = (D, R, (j : Int), false, 0) ∧ (E.getD j (0, 0, [])).2.1 = x.2.1 := by
  obtain ⟨j, h1, h2, h3, h4⟩ := tab_at E 0 x.1 x.2.1 (by rw [← h.tab]; exact hk)
  refine ⟨j, h1, ?_, h4⟩
  have he : R.e = 0 := h.calm.e
  unfold addM
  rw [if_neg (fun hn => hn he), (put_byt (x := x) (by rw [hx.1]; decide) (by unfold B64; omega) (by omega)).1, if_neg (fun h => h rfl), if_pos hk, h.tab, h2, Nat.zero_add]
theorem Kst.ents_more (h : Kst N L E D R) (hx : x.1 = 3 ∧ x.2.1 < 16 ∧ x.2.2.length ≤ 60) (hk : dknown R.tab x.1 x.2.1 = false) : Ents (E ++ [x]) := by
  rw [h.tab, tab_known, List.any_eq_false] at hk
  refine ⟨fun e he => ?_, ?_⟩
  · rcases List.mem_append.1 he with he | he
    · exact h.ents.ok e he
    · rw [List.mem_singleton.1 he]; exact hx
  · rw [List.map_append, List.nodup_append]
    refine ⟨h.ents.nodup, by simp, fun a ha b hb => ?_⟩
    obtain ⟨e, he, rfl⟩ := List.mem_map.1 ha
    have hb' : b = x.2.1 := by simpa using hb
    intro hab
    have := hk e he
    simp [(h.ents.ok e he).1, hx.1] at this
    exact this (hab.trans hb')
/-- A new one: it stands, or the disk stops and it may stand behind a crash. -/
theorem Kst.new (h : Kst N L E D R) (hN : N ≤ 100) (hL : E.length ≤ 16) (hx : x.1 = 3 ∧ x.2.1 < 16 ∧ x.2.2.length ≤ 60) (hk : dknown R.tab x.1 x.2.1 = false) :
    (∃ D' R', addM D R x = (D', R', (E.length : Int), true, 0) ∧ Kst N (L + 1) (E ++ [x]) D' R') ∨ (∃ D' R', addM D R x = (D', R', 0, false, 20) ∧ CrR N (L + 1) E D') := by
  have hE := h.ents_more hx hk
  have hp := put_byt (x := x) (by rw [hx.1]; decide) (by unfold B64; omega) (by omega)
  have hbl : (bytE x).length ≤ 87 := by have := hp.2.1; omega
  obtain ⟨recs, hs⟩ := h.calm.sys 0 (by rw [h.many]; omega)
  obtain ⟨ha, hb, hg⟩ := h.calm.at_ 0 (by rw [h.many]; omega)
  have hll := hs.l
  rw [List.append_nil] at hll
  have hu : (R.seg 0).used ≤ 2 * E.length := by
    have h2 := nblk_two (R.seg 0).l (fun b hbm => by
      rw [h.l0] at hbm
      obtain ⟨e, he, rfl⟩ := List.mem_map.1 hbm
      have := (h.ents.put he).2.1
      omega)
    rw [h.l0, List.length_map] at h2
    have h3 := hs.used
    rw [h.l0] at h3
    omega
  obtain ⟨B, hB⟩ : ∃ B, bytE x = B := ⟨_, rfl⟩
  rw [hB] at hp hbl
  have hn2 : needM B.length ≤ 2 := by unfold needM; omega
  have hn1 : 1 ≤ needM B.length := by unfold needM; omega
  have hfit : (R.seg 0).used + needM B.length ≤ (R.seg 0).n := by omega
  obtain ⟨a1, a2⟩ := sys_app hs (b := B) (by omega) hfit
  obtain ⟨s1, s2⟩ := sys_sync a2
  have hl : D.l.length = 120 := h.calm.len
  have hw : D.waits = [] := h.calm.waits
  have hwr := wr_left (S := R.seg 0) (b := B) (needM B.length) 0 D h.down h.left (by omega)
  rw [Nat.add_zero, hw, List.nil_append] at hwr
  have hrw : D.run.waits = [] := hw
  rw [hrw, List.nil_append] at a1 a2 s1 s2
  obtain ⟨PW, hPW⟩ : ∃ PW, ws ((R.seg 0).frm + (R.seg 0).used) (partsL (R.seg 0).epoch (R.seg 0).l.length B (needM B.length) 0) = PW := ⟨_, rfl⟩
  rw [hPW] at hwr a1 a2 s1 s2
  have hPl : PW.length = needM B.length := by rw [← hPW, ws_len, partsL_len]
  have hseg0 : (0 : Nat) < R.l.length := by rw [h.calm.full, h.many]; omega
  have hcr : ∀ pick, ∃ R E', ropnM (Dk.crash { D.run with waits := PW } pick) (0 : Int) (40 : Int) (3 : Int) (0 : Int) = (R, 0) ∧ (∃ t, E' = E ++ t) ∧ Kst (N + 1) (L + 1) E' (Dk.crash { D.run with waits := PW } pick) R := fun pick => by
    obtain ⟨j, R', _, h1, h2⟩ := kst_crash (L := L + 1) h.calm h.many a2 ⟨by simp only; omega, hb, h.ep 0 (by omega)⟩ rfl h.ep hN h.l1 h.l2 (E := E) (Ew := [x]) (by rw [← hll]; exact h.l0) (by rw [← hB]; rfl) hE (by have := h.len; simp; omega) pick
    exact ⟨R', _, h1, ⟨_, rfl⟩, h2⟩
  have hadd : ∀ D1 R1 at1 e1, apnM D R 0 B = (D1, R1, at1, e1) → addM D R x = if e1 ≠ 0 then (D1, R1, 0, false, e1) else (D1, { R1 with tab := (dnote R1.tab x.1 x.2.1 (at1 : Int)).1 }, (at1 : Int), true, 0) := fun D1 R1 at1 e1 hh => by
    have he : R.e = 0 := h.calm.e
    have ht : R1.tab = R.tab := by have := apn_tab D R 0 B; rw [hh] at this; exact this
    unfold addM
    rw [if_neg (fun hn => hn he), hp.1, if_neg (fun h => h rfl), if_neg (by rw [hk]; decide), if_neg (by rw [h.open_]; decide), h.own]
    simp only
    rw [hh, ht]
  by_cases hok : D.left = -1 ∨ (needM B.length : Int) ≤ D.left
  · rw [if_pos hok] at hwr
    have happ : appM D (R.seg 0) B = ({ D with waits := PW, left := if D.left = -1 then -1 else D.left - needM B.length }, { R.seg 0 with l := (R.seg 0).l ++ [B], used := (R.seg 0).used + needM B.length }, (R.seg 0).l.length, 0) := by
      unfold appM
      rw [if_neg (by omega), if_neg (by rw [hs.e]; simp), if_neg (by omega), hwr]
      simp
    obtain ⟨lf, hlf⟩ : ∃ lf, (if D.left = -1 then -1 else D.left - (needM B.length : Int)) = lf := ⟨_, rfl⟩
    rw [hlf] at happ
    have hlfb : -1 ≤ lf := by rw [← hlf]; split <;> omega
    by_cases hz : lf = 0
    · -- the sync fails
      right
      have hsy : synM { D with waits := PW, left := lf } { R.seg 0 with l := (R.seg 0).l ++ [B], used := (R.seg 0).used + needM B.length } = ({ D with waits := PW, left := lf, down := true }, { R.seg 0 with l := (R.seg 0).l ++ [B], used := (R.seg 0).used + needM B.length, e := 20 }, 20) := by
        have hsync : Dk.sync { D with waits := PW, left := lf } = ({ D with waits := PW, left := lf, down := true }, 20) := by
          unfold Dk.sync
          rw [if_neg (by simp only; rw [h.down]; decide), if_pos hz]
        unfold synM
        rw [if_neg (by rw [hs.e]; simp), hsync]
        rfl
      have hapn : apnM D R 0 B = ({ D with waits := PW, left := lf, down := true }, { R.put 0 { R.seg 0 with l := (R.seg 0).l ++ [B], used := (R.seg 0).used + needM B.length, e := 20 } with e := 20 }, 0, 20) := by
        unfold apnM
        rw [happ, if_neg (by simp), if_neg (by simp)]
        simp only
        rw [hsy, if_pos (by simp)]
      refine ⟨_, _, (hadd _ _ _ _ hapn).trans (if_pos (show (20 : Int) ≠ 0 by decide)), ?_⟩
      exact ⟨by show PW.length ≤ 1000; omega, hl, hcr⟩
    · left
      have hsy : synM { D with waits := PW, left := lf } { R.seg 0 with l := (R.seg 0).l ++ [B], used := (R.seg 0).used + needM B.length } = ({ D with l := Dk.lay D.l PW, waits := [], left := max (lf - 1) (-1) }, { R.seg 0 with l := (R.seg 0).l ++ [B], used := (R.seg 0).used + needM B.length, sure := ((R.seg 0).l ++ [B]).length }, 0) := by
        have hsync : Dk.sync { D with waits := PW, left := lf } = ({ D with l := Dk.lay D.l PW, waits := [], left := max (lf - 1) (-1) }, 0) := by
          unfold Dk.sync
          rw [if_neg (by simp only; rw [h.down]; decide), if_neg hz]
        unfold synM
        rw [if_neg (by rw [hs.e]; simp), hsync]
        simp
      have hapn : apnM D R 0 B = ({ D with l := Dk.lay D.l PW, waits := [], left := max (lf - 1) (-1) }, R.more 0 B, (R.seg 0).l.length, 0) := by
        unfold apnM
        rw [happ, if_neg (by simp), if_neg (by simp)]
        simp only
        rw [hsy, if_neg (by simp)]
        simp only [Rp.more, List.length_append, List.length_singleton]
      have hcalm := calm_apn h.calm (i := 0) (by rw [h.many]; omega) (b := B) (by omega) (by rw [← hb]; exact hfit)
      obtain ⟨Dq, hq1, hq2⟩ := hcalm
      have hDq : Dq = { D.run with l := Dk.lay D.l PW, waits := [] } := by
        have h9 : apnM D.run R 0 B = ({ D.run with l := Dk.lay D.l PW, waits := [] }, R.more 0 B, (R.seg 0).l.length, 0) := by
          unfold apnM
          rw [a1, if_neg (by simp), if_neg (by simp)]
          simp only
          rw [s1, if_neg (by simp)]
          simp only [Rp.more, List.length_append, List.length_singleton, Dk.run]
        rw [hq1] at h9
        exact congrArg Prod.fst h9
      have hel : (R.seg 0).l.length = E.length := by rw [h.l0, List.length_map]
      have hsg := more_seg (b := B) hseg0
      refine ⟨_, _, (hadd _ _ _ _ hapn).trans ((if_neg (fun h => h rfl)).trans (by rw [hel])), ?_⟩
      have htab : (dnote (R.more 0 B).tab x.1 x.2.1 (E.length : Int)).1 = tabF 0 (E ++ [x]) := by
        have ht : (R.more 0 B).tab = R.tab := rfl
        unfold dnote
        rw [if_neg (by omega), ht, hk, h.tab, tab_snoc, Nat.zero_add]
        rfl
      have hmep : ∀ i, ((R.more 0 B).seg i).epoch = (R.seg i).epoch := fun i => by
        unfold Rp.more
        rw [put_at R 0 i _ hseg0]
        split
        · rename_i h0; rw [h0]
        · rfl
      refine { down := h.down, left := by simp only; omega, calm := ?_, many := h.many, own := h.own, open_ := h.open_, l0 := ?_, l1 := ?_, l2 := ?_, ep := fun i hi => ?_, tab := htab, ents := hE, len := by have := h.len; simp; omega }
      · have hrun : Dk.run { D with l := Dk.lay D.l PW, waits := [], left := max (lf - 1) (-1) } = Dq := by rw [hDq]; rfl
        rw [hrun]
        exact hq2.tab _
      · show ((R.more 0 B).seg 0).l = _
        rw [hsg, if_pos rfl, h.l0, List.map_append, ← hB]; rfl
      · show ((R.more 0 B).seg 1).l = _
        rw [hsg, if_neg (by omega)]; exact h.l1
      · show ((R.more 0 B).seg 2).l = _
        rw [hsg, if_neg (by omega)]; exact h.l2
      · show ((R.more 0 B).seg i).epoch ≤ _
        rw [hmep]; exact h.ep i hi
  · right
    rw [if_neg hok] at hwr
    have happ : appM D (R.seg 0) B = ({ D with waits := PW.take D.left.toNat, left := 0, down := true }, { R.seg 0 with e := 20 }, 0, 20) := by
      unfold appM
      rw [if_neg (by omega), if_neg (by rw [hs.e]; simp), if_neg (by omega), hwr]
      rfl
    have hapn : apnM D R 0 B = ({ D with waits := PW.take D.left.toNat, left := 0, down := true }, { R.put 0 { R.seg 0 with e := 20 } with e := 20 }, 0, 20) := by
      unfold apnM
      rw [happ, if_neg (by simp), if_pos (by simp)]
    refine ⟨_, _, (hadd _ _ _ _ hapn).trans (if_pos (show (20 : Int) ≠ 0 by decide)), ?_⟩
    refine ⟨by show (PW.take D.left.toNat).length ≤ 1000; rw [List.length_take]; omega, hl, fun pick => ?_⟩
    have he : Dk.crash { D with waits := PW.take D.left.toNat, left := 0, down := true } pick = Dk.crash { D.run with waits := PW } (pick.take D.left.toNat) := by
      unfold Dk.crash
      simp only
      rw [tears_take]
      rfl
    rw [he]
    exact hcr _
end
theorem Kst.read {N L : Nat} {E : List En} {D : Dk} {R : Rp} (h : Kst N L E D R) {j : Nat} (hj : j < E.length) : rreadM R 0 (j : Int) = (E.getD j (0, 0, []), 0) := by
  have h1 := calm_read h.calm (i := 0) (j := j) (by rw [h.many]; omega) (by rw [h.l0, List.length_map]; exact hj)
  rw [h.l0, List.getD_eq_getElem?_getD, List.getElem?_map, List.getElem?_eq_getElem hj] at h1
  rw [List.getD_eq_getElem?_getD, List.getElem?_eq_getElem hj]
  exact h1.trans (h.ents.put (List.getElem_mem hj)).2.2
end Go.Proofs.Ytjfidhjnbcmhfaa
namespace Go.Proofs.Ytjfidhjnbcmhfaa
open Go.RowKit
open Go.NB.Crc
open Go.NB (Rd RdU Dk Kp Stp Off Dis val I64 Rw oneB dB rw_new B64 Ent dknown dat dhit)

abbrev zEn : En := (0, 0, [])
/-- at, body, top. -/
structure Tab (E : List En) (A : List Nat) (B : List (List UInt8)) (top : Nat) : Prop where
  al : A.length = 16
  bl : B.length = 16
  top : top ≤ E.length
  at_ : ∀ k, k < 16 → 0 < A.getD k 0 → A.getD k 0 ≤ E.length ∧ (E.getD (A.getD k 0 - 1) zEn).2.1 = k ∧ (E.getD (A.getD k 0 - 1) zEn).2.2 = B.getD k []
theorem tab_begin : Tab [] (List.replicate 16 0) (List.replicate 16 []) 0 where
  al := List.length_replicate
  bl := List.length_replicate
  top := Nat.le_refl _
  at_ := fun k hk h => by rw [List.getD_eq_getElem?_getD, List.getElem?_replicate, if_pos hk] at h; exact absurd h (Nat.lt_irrefl _)
section
variable {E : List En} {A : List Nat} {B : List (List UInt8)} {top : Nat}
theorem Tab.more (h : Tab E A B top) (t : List En) : Tab (E ++ t) A B top where
  al := h.al
  bl := h.bl
  top := by have := h.top; rw [List.length_append]; omega
  at_ := fun k hk h0 => by
    obtain ⟨h1, h2, h3⟩ := h.at_ k hk h0
    have hg : (E ++ t).getD (A.getD k 0 - 1) zEn = E.getD (A.getD k 0 - 1) zEn := by
      have hi : A.getD k 0 - 1 < E.length := by omega
      generalize A.getD k 0 - 1 = i at hi ⊢
      rw [List.getD_eq_getElem?_getD, List.getElem?_append_left hi, List.getD_eq_getElem?_getD]
    rw [hg]
    exact ⟨by rw [List.length_append]; omega, h2, h3⟩
theorem Tab.set_ (h : Tab E A B top) {j k : Nat} (hj : j < E.length) (hk : k < 16) (he : (E.getD j zEn).2.1 = k) : Tab E (A.set k (j + 1)) (B.set k (E.getD j zEn).2.2) top where
  al := by rw [List.length_set]; exact h.al
  bl := by rw [List.length_set]; exact h.bl
  top := h.top
  at_ := fun c hc h0 => by
    have hA : (A.set k (j + 1)).getD c 0 = if c = k then j + 1 else A.getD c 0 := by
      rw [List.getD_eq_getElem?_getD, List.getElem?_set, List.getD_eq_getElem?_getD]
      by_cases hec : k = c
      · rw [if_pos hec, if_pos (by rw [h.al]; exact hk), if_pos hec.symm]; rfl
      · rw [if_neg hec, if_neg (fun h => hec h.symm)]
    have hB : (B.set k (E.getD j zEn).2.2).getD c [] = if c = k then (E.getD j zEn).2.2 else B.getD c [] := by
      rw [List.getD_eq_getElem?_getD, List.getElem?_set]
      by_cases hec : k = c
      · rw [if_pos hec, if_pos (by rw [h.bl]; exact hk), if_pos hec.symm]; rfl
      · rw [if_neg hec, if_neg (fun h => hec h.symm), List.getD_eq_getElem?_getD]
    rw [hA] at h0
    rw [hA, hB]
    by_cases hec : c = k
    · rw [if_pos hec, if_pos hec, Nat.add_sub_cancel]
      exact ⟨by omega, by rw [hec]; exact he, rfl⟩
    · rw [if_neg hec] at h0
      rw [if_neg hec, if_neg hec]
      exact h.at_ c hc h0
theorem Tab.rise (h : Tab E A B top) {t : Nat} (ht : t ≤ E.length) : Tab E A B t := { h with top := ht }
end
theorem ents_inj {E : List En} (h : Ents E) {i j : Nat} (hi : i < E.length) (hj : j < E.length) (he : (E.getD i zEn).2.1 = (E.getD j zEn).2.1) : i = j := by
  have h1 := h.nodup
  rw [List.nodup_iff_pairwise_ne, List.pairwise_iff_getElem] at h1
  have hl : (E.map (·.2.1)).length = E.length := List.length_map _
  rw [List.getD_eq_getElem?_getD, List.getD_eq_getElem?_getD, List.getElem?_eq_getElem hi, List.getElem?_eq_getElem hj] at he
  simp only [Option.getD_some] at he
  rcases Nat.lt_trichotomy i j with hlt | heq | hgt
  · exact absurd (by rw [List.getElem_map, List.getElem_map]; exact he) (h1 i j (by omega) (by omega) hlt)
  · exact heq
  · exact absurd (by rw [List.getElem_map, List.getElem_map]; exact he.symm) (h1 j i (by omega) (by omega) hgt)

/-! ### Rows in memory -/
def intsK (A : List Nat) : List Value := A.map fun (x : Nat) => Value.int .i64 (x : Int)
theorem intsK_at (A : List Nat) (c : Nat) (h : c < A.length) : (intsK A)[c]? = some (.int .i64 (A.getD c 0 : Int)) := by
  rw [intsK, List.getElem?_map, List.getD_eq_getElem?_getD, List.getElem?_eq_getElem h]; rfl
theorem intsK_set (A : List Nat) (c x : Nat) : (intsK A).set c (.int .i64 (x : Int)) = intsK (A.set c x) := by
  rw [intsK, intsK, List.map_set]
def strV (b : List UInt8) : Value := .string ⟨b.toArray⟩
def strsK (B : List (List UInt8)) : List Value := B.map strV
theorem strsK_at (B : List (List UInt8)) (c : Nat) (h : c < B.length) : (strsK B)[c]? = some (strV (B.getD c [])) := by
  rw [strsK, List.getElem?_map, List.getD_eq_getElem?_getD, List.getElem?_eq_getElem h]; rfl
theorem strsK_set (B : List (List UInt8)) (c : Nat) (b : List UInt8) : (strsK B).set c (strV b) = strsK (B.set c b) := by
  rw [strsK, strsK, List.map_set]
def boolsK (S : List Bool) : List Value := S.map Value.bool
theorem boolsK_at (S : List Bool) (c : Nat) (h : c < S.length) : (boolsK S)[c]? = some (.bool (S.getD c false)) := by
  rw [boolsK, List.getElem?_map, List.getD_eq_getElem?_getD, List.getElem?_eq_getElem h]; rfl
theorem boolsK_set (S : List Bool) (c : Nat) (b : Bool) : (boolsK S).set c (.bool b) = boolsK (S.set c b) := by
  rw [boolsK, boolsK, List.map_set]
theorem slKI : NB.SlT Try.prog 45 3 (.int .i64 0) 1 8 :=
  ⟨Try.underlying45, info_parts (by kernel_rfl), rfl, by omega⟩
theorem slKS : NB.SlT Try.prog 46 9 (.string ⟨#[]⟩) 1 16 :=
  ⟨Try.underlying46, info_parts (by kernel_rfl), rfl, by omega⟩
theorem slKB : NB.SlT Try.prog 49 4 (.bool false) 1 1 :=
  ⟨Try.underlying49, info_parts (by kernel_rfl), rfl, by omega⟩
theorem made_v (v : Value) (n : Nat) : (madeCells #[v] n).toList = List.replicate n v := by
  have e2 : ∀ x : Nat, (#[v] : Array Value)[x % (#[v] : Array Value).size]! = v := by
    intro x
    rw [show x % (#[v] : Array Value).size = 0 from Nat.mod_one x]
    rfl
  unfold madeCells
  simp only [e2]
  simp [List.map_const']
theorem rowK_made {wb w2 : World} {t : TypeId} {K : Nat} (v : Value) (hv : v.cells = #[v]) (hK : 0 < K) (ho : w2.ownsRow wb.heap.size t 1 (.slice (some ⟨wb.heap.size, 0, none⟩) K K) K (madeCells v.cells (K * 1)).toList) (hg : wb.grownBy w2 none) :
    Rw w2 wb.heap.size (List.replicate K v) t ∧ Below wb.heap.size wb w2 := by
  refine ⟨?_, (Below.refl _ wb).grown hg (Nat.le_refl _) (by rintro k hk; cases hk)⟩
  rw [hv, Nat.mul_one, made_v] at ho
  exact NB.rw_of_own ho hK
theorem rk_lens {X : Nat → Prop} {w0 w : World} {r p m n : Nat} {D D2 : Dk} {R : Rp} (h : HasRp X w0 w r p D R) (hc : Calm m n D2 R) (hn : n ≤ 1000) (k : Nat) (hk : k ≤ R.many) (hpos : 0 < k → (R.seg (k - 1)).l ≠ []) (hz : ∀ i, k ≤ i → i < R.many → (R.seg i).l = []) :
    Calls Try.prog 12 #[.pointer (some ⟨r, 0, none⟩)] w fun e w' => ∃ a c, e = .returned (.slice a k c) ∧ Below w.heap.size w w' ∧ (0 < k → ∃ b o, a = some ⟨b, o, none⟩ ∧ w.heap.size ≤ b ∧ ∀ i, i < k → w'.cell? ⟨b, o + i, none⟩ = some (.int .u64 ((R.seg i).l.length : Int))) := by
  refine (rpln_any h hc.full (fun i => by have := hc.sure i; have := hc.llen i; omega)).mono ?_
  rintro e w' ⟨w1, hb1, m', hm1, hm2, hm3, hm4, hf⟩
  rw [rq_sures hc] at hm1 hm2 hm3 hm4 hf
  have hlen : ((List.range R.many).map fun i => (R.seg i).l.length).length = R.many := by simp
  have hget : ∀ i, i < R.many → ((List.range R.many).map fun i => (R.seg i).l.length).getD i 0 = (R.seg i).l.length := fun i hi => by
    rw [List.getD_eq_getElem?_getD, List.getElem?_map, List.getElem?_range hi]; rfl
  rw [hlen] at hm1 hm3
  have hmk : m' = k := by
    rcases Nat.lt_trichotomy m' k with hlt | heq | hgt
    · have h1 := hm3 (k - 1) (by omega) (by omega)
      rw [hget _ (by omega)] at h1
      exact absurd (List.eq_nil_of_length_eq_zero h1) (hpos (by omega))
    · exact heq
    · have h1 := hm4 (by omega)
      rw [hget _ (by omega), hz (m' - 1) (by omega) (by omega)] at h1
      exact absurd rfl h1
  subst hmk
  obtain ⟨a, c, rfl, ho, hb2⟩ := hf
  refine ⟨a, c, rfl, bel hb1 hb2 hb1.size, fun hp => ?_⟩
  obtain ⟨a', c', e', hl, hlo, _⟩ := NB.rd_of_own ho
  cases e'
  obtain ⟨b, o, rfl, hcell⟩ := Rd.pos hl (by simp [hp])
  refine ⟨b, o, rfl, Nat.le_trans hb1.size (hlo b o rfl).1, fun i hi => hcell i _ ?_⟩
  rw [List.getElem?_map, List.getElem?_take, if_pos hi, List.getElem?_map, List.getElem?_range (by omega)]
  rfl
/-- Numbers that were seen. -/
def Seen (E : List En) (j : Nat) (S : List Bool) : Prop := S.length = 16 ∧ ∀ c, S.getD c false = true → ∃ i, i < j ∧ (E.getD i zEn).2.1 = c
theorem seen_begin (E : List En) : Seen E 0 (List.replicate 16 false) := ⟨List.length_replicate, fun c hc => by
  rw [List.getD_eq_getElem?_getD, List.getElem?_replicate] at hc
  split at hc <;> cases hc⟩
theorem seen_not {E : List En} {j : Nat} {S : List Bool} (h : Seen E j S) (hE : Ents E) (hj : j < E.length) : S.getD (E.getD j zEn).2.1 false = false := by
  cases hb : S.getD (E.getD j zEn).2.1 false
  · rfl
  · obtain ⟨i, hi, he⟩ := h.2 _ hb
    have := ents_inj hE (i := i) (j := j) (by omega) hj he
    omega
theorem seen_more {E : List En} {j : Nat} {S : List Bool} (h : Seen E j S) : Seen E (j + 1) (S.set (E.getD j zEn).2.1 true) := by
  refine ⟨by rw [List.length_set]; exact h.1, fun c hc => ?_⟩
  by_cases he : (E.getD j zEn).2.1 = c
  · exact ⟨j, by omega, he⟩
  · rw [List.getD_eq_getElem?_getD, List.getElem?_set, if_neg he, ← List.getD_eq_getElem?_getD] at hc
    obtain ⟨i, hi, h2⟩ := h.2 c hc
    exact ⟨i, by omega, h2⟩
theorem ents_at {E : List En} (h : Ents E) {j : Nat} (hj : j < E.length) : ∃ s b, E.getD j zEn = (3, s, b) ∧ s < 16 := by
  obtain ⟨h1, h2, _⟩ := h.ok _ (List.getElem_mem hj)
  rw [List.getD_eq_getElem?_getD, List.getElem?_eq_getElem hj]
  rcases hx : E[j] with ⟨x, s, b⟩
  rw [hx] at h1 h2
  simp only at h1 h2
  subst h1
  exact ⟨s, b, rfl, h2⟩
end Go.Proofs.Ytjfidhjnbcmhfaa
