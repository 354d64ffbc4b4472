/- A segment and its disk: what stands there, whatever is appended, synced, crashed: plain laws. -/
import Derived.Test.YtmgkaoenjnnlmaaSgp
namespace Go.Proofs.Ytmgkaoenjnnlmaa
open Go.NB (Dk val)
open Go.NB.Crc

/-- What stands on a region: the records that are sure; behind them nothing that would be read. -/
structure InvW (R : List (List UInt8)) (n E : Nat) (recs : List Rec) : Prop where
  len : R.length = n
  laid : LaidR R 0 0 recs
  rise : Rise 0 recs
  all : ∀ (i : Nat) (b : List UInt8), R[i]? = some b → Zb E b
  stop : recordM R (nblk (recs.map (·.1))) recs.length (lastE 0 recs) = none
structure SInv (R : List (List UInt8)) (n E : Nat) (recs : List Rec) : Prop extends InvW R n E recs where
  le : ∀ r ∈ recs, r.2 ≤ E
  junk : ∀ (i : Nat) (b : List UInt8), nblk (recs.map (·.1)) ≤ i → R[i]? = some b → num4 b < E ∧ num4 (b.drop 60) < E

theorem need_pos (n : Nat) : 1 ≤ needM n := by unfold needM; omega
theorem nblk_ge : ∀ (l : List (List UInt8)), l.length ≤ nblk l
  | [] => Nat.le_refl _
  | b :: t => by have := need_pos b.length; have := nblk_ge t; simp only [nblk, List.length_cons]; omega
theorem laid_fit {R : List (List UInt8)} : ∀ (recs : List Rec) (p u : Nat), u ≤ R.length → LaidR R p u recs → u + nblk (recs.map (·.1)) ≤ R.length
  | [], _, u, hu, _ => by simpa [nblk] using hu
  | r :: t, p, u, _, ⟨⟨h1, _, _⟩, h4⟩ => by
    have hp := need_pos r.1.length
    have := (List.getElem?_eq_some_iff.1 (h1 (needM r.1.length - 1) (by omega))).1
    have h5 := laid_fit t (p + 1) (u + needM r.1.length) (by omega) h4
    simp only [List.map_cons, nblk]
    omega
theorem InvW.fit {R : List (List UInt8)} {n E : Nat} {recs : List Rec} (h : InvW R n E recs) : nblk (recs.map (·.1)) ≤ n := by
  have := laid_fit recs 0 0 (by omega) h.laid
  rw [h.len] at this
  omega
theorem InvW.few {R : List (List UInt8)} {n E : Nat} {recs : List Rec} (h : InvW R n E recs) : recs.length ≤ n := by
  have := nblk_ge (recs.map (·.1))
  have h2 := h.fit
  rw [List.length_map] at this
  omega

theorem top_go (R : List (List UInt8)) (E : Nat) : ∀ t, t ≤ E → (∀ b ∈ R, num4 b ≤ E ∧ num4 (b.drop 60) ≤ E) → R.foldl (fun t b => max t (max (num4 b) (num4 (b.drop 60)))) t ≤ E := by
  induction R with
  | nil => intro t h _; exact h
  | cons b R ih =>
    intro t h hb
    have := hb b (by simp)
    exact ih _ (by show max t (max (num4 b) (num4 (b.drop 60))) ≤ E; omega) (fun c hc => hb c (by simp [hc]))
theorem top_le {R : List (List UInt8)} {E : Nat} (h : ∀ b ∈ R, num4 b ≤ E ∧ num4 (b.drop 60) ≤ E) : topM R ≤ E := top_go R E 0 (Nat.zero_le _) h
theorem ge_go (R : List (List UInt8)) : ∀ t, t ≤ R.foldl (fun t b => max t (max (num4 b) (num4 (b.drop 60)))) t ∧ ∀ b ∈ R, num4 b ≤ R.foldl (fun t b => max t (max (num4 b) (num4 (b.drop 60)))) t ∧ num4 (b.drop 60) ≤ R.foldl (fun t b => max t (max (num4 b) (num4 (b.drop 60)))) t := by
  induction R with
  | nil => intro t; exact ⟨Nat.le_refl _, by simp⟩
  | cons c R ih =>
    intro t
    obtain ⟨h1, h2⟩ := ih (max t (max (num4 c) (num4 (c.drop 60))))
    refine ⟨Nat.le_trans (Nat.le_max_left _ _) h1, fun b hb => ?_⟩
    rcases List.mem_cons.1 hb with rfl | hb
    · have := Nat.le_max_right t (max (num4 b) (num4 (b.drop 60)))
      have h3 := Nat.le_trans this h1
      exact ⟨Nat.le_trans (Nat.le_max_left _ _) h3, Nat.le_trans (Nat.le_max_right _ _) h3⟩
    · exact h2 b hb
theorem top_ge {R : List (List UInt8)} {b : List UInt8} (h : b ∈ R) : num4 b ≤ topM R ∧ num4 (b.drop 60) ≤ topM R := (ge_go R 0).2 b h

theorem laid_ep {R : List (List UInt8)} : ∀ (recs : List Rec) (p u : Nat), LaidR R p u recs → ∀ r ∈ recs, r.2 ≤ topM R
  | [], _, _, _, _, h => by simp at h
  | a :: t, p, u, ⟨⟨h1, _, h3⟩, h4⟩, r, hr => by
    rcases List.mem_cons.1 hr with rfl | hr
    · have h5 := h1 0 (need_pos _)
      have := (top_ge (List.mem_of_getElem? h5)).1
      rw [num4_blk h3] at this
      exact this
    · exact laid_ep t _ _ h4 r hr

/-- Opened anew it has what stood there. -/
theorem inv_open {R : List (List UInt8)} {n E : Nat} {recs : List Rec} (h : InvW R n E recs) (hn : n < 4294967295) (frm : Nat) :
    openR frm n R = ⟨frm, n, topM R + 1, recs.map (·.1), nblk (recs.map (·.1)), recs.length, 0, 0⟩ ∧ SInv R n (topM R + 1) recs ∧ topM R ≤ E := by
  have hfew := h.few
  have ho := open_laid (R := R) recs [] 0 0 (R.length + 1) (R.length + 1) h.laid h.rise (by simp; omega) (by omega) (by omega)
  rw [List.nil_append, Nat.zero_add] at ho
  have ho := ho.trans (open_stop _ _ _ _ (by rw [List.length_map]; exact h.stop))
  have hall : ∀ b ∈ R, num4 b ≤ E ∧ num4 (b.drop 60) ≤ E := fun b hb => by
    obtain ⟨i, hi⟩ := List.mem_iff_getElem?.1 hb
    exact ⟨(h.all i b hi).le1, (h.all i b hi).le2⟩
  refine ⟨?_, ⟨⟨h.len, h.laid, h.rise, fun i b hb => ?_, h.stop⟩, fun r hr => ?_, fun i b _ hb => ?_⟩, top_le hall⟩
  · unfold openR; rw [ho]; simp
  · have := top_ge (List.mem_of_getElem? hb)
    have hz := h.all i b hb
    exact ⟨hz.len, hz.z1, hz.z2, by omega, by omega⟩
  · have := laid_ep recs 0 0 h.laid r hr; omega
  · have := top_ge (List.mem_of_getElem? hb)
    omega

/-- Which parts the blocks are of. -/
theorem blks_at (E : Nat) : ∀ (W : List (List UInt8)) (p j k : Nat) (b : List UInt8), W[j]? = some b → k < needM b.length →
    (blksOf E p W)[nblk (W.take j) + k]? = some (blkL E (p + j + 1) k (needM b.length) (piece b k))
  | [], _, j, _, _, h, _ => by simp at h
  | a :: W, p, 0, k, b, h, hk => by
    simp only [List.getElem?_cons_zero, Option.some.injEq] at h
    subst h
    simp only [List.take_zero, nblk, Nat.zero_add, blksOf]
    rw [List.getElem?_append_left (by rw [partsL_len]; exact hk), partsL_at E p a _ 0 k hk, Nat.zero_add, Nat.add_zero]
  | a :: W, p, j + 1, k, b, h, hk => by
    simp only [List.getElem?_cons_succ] at h
    simp only [List.take_succ_cons, nblk, blksOf]
    rw [List.getElem?_append_right (by rw [partsL_len]; omega), partsL_len, show needM a.length + nblk (W.take j) + k - needM a.length = nblk (W.take j) + k by omega, blks_at E W (p + 1) j k b h hk, show p + 1 + j + 1 = p + (j + 1) + 1 by omega]
theorem nblk_take (W : List (List UInt8)) (j : Nat) (b : List UInt8) (h : W[j]? = some b) : nblk (W.take j) + needM b.length ≤ nblk W := by
  have h1 : W = W.take j ++ b :: W.drop (j + 1) := by
    obtain ⟨hj, rfl⟩ := List.getElem?_eq_some_iff.1 h
    rw [← List.drop_eq_getElem_cons hj, List.take_append_drop]
  conv => rhs; rw [h1]
  rw [nblk_app, nblk]
  omega

theorem laid_front {R : List (List UInt8)} (E : Nat) (hE : E < 4294967296) : ∀ (W : List (List UInt8)) (p u : Nat), (∀ b ∈ W, b.length ≤ 4096) →
    ∃ j, j ≤ W.length ∧ LaidR R p u ((W.take j).map fun b => (b, E)) ∧ ∀ b, W[j]? = some b → ¬ LaidAt R (u + nblk (W.take j)) (p + j) E b
  | [], p, u, _ => ⟨0, Nat.le_refl _, trivial, by simp⟩
  | b :: W, p, u, hW => by
    by_cases hb : LaidAt R u p E b
    · obtain ⟨j, h1, h2, h3⟩ := laid_front E hE W (p + 1) (u + needM b.length) (fun c hc => hW c (by simp [hc]))
      refine ⟨j + 1, by simpa using h1, ⟨⟨hb, hW b (by simp), hE⟩, h2⟩, fun c hc => ?_⟩
      have := h3 c (by simpa using hc)
      simp only [List.take_succ_cons, nblk]
      rw [show u + (needM b.length + nblk (W.take j)) = u + needM b.length + nblk (W.take j) by omega, show p + (j + 1) = p + 1 + j by omega]
      exact this
    · refine ⟨0, Nat.zero_le _, trivial, fun c hc => ?_⟩
      simp only [List.getElem?_cons_zero, Option.some.injEq] at hc
      subst hc
      exact hb

/-- Behind a crash: each block that was written is the old one, the new one, or not right. -/
theorem inv_crash {R R' : List (List UInt8)} {n E : Nat} {recs : List Rec} (h : SInv R n E recs) (hE : E < 256) (hn : n < 4294967295) (W : List (List UInt8)) (hW : ∀ b ∈ W, b.length ≤ 4096)
    (hfit : nblk (recs.map (·.1)) + nblk W ≤ n) (hl : R'.length = n)
    (hin : ∀ i, nblk (recs.map (·.1)) ≤ i → i < nblk (recs.map (·.1)) + nblk W → ∃ T, R'[i]? = some T ∧ (R[i]? = some T ∨ (blksOf E recs.length W)[i - nblk (recs.map (·.1))]? = some T ∨ rightB T = false) ∧ Zb E T)
    (hout : ∀ i, i < nblk (recs.map (·.1)) ∨ nblk (recs.map (·.1)) + nblk W ≤ i → R'[i]? = R[i]?) :
    ∃ j, j ≤ W.length ∧ InvW R' n E (recs ++ (W.take j).map fun b => (b, E)) := by
  obtain ⟨j, hj, h1, h2⟩ := laid_front (R := R') E (by omega) W recs.length (nblk (recs.map (·.1))) hW
  have hle0 := lastE_le recs 0 (Nat.zero_le E) h.le
  obtain ⟨r1, r2⟩ := rise_same E (W.take j) (lastE 0 recs) hle0
  have hfew := h.toInvW.few
  have hu0 := h.toInvW.fit
  have hg1 := nblk_ge (recs.map (·.1))
  rw [List.length_map] at hg1
  have hg2 := nblk_ge W
  have hmap : (recs ++ (W.take j).map fun b => (b, E)).map (·.1) = recs.map (·.1) ++ W.take j := by simp [Function.comp_def]
  have hnb : nblk ((recs ++ (W.take j).map fun b => (b, E)).map (·.1)) = nblk (recs.map (·.1)) + nblk (W.take j) := by rw [hmap, nblk_app]
  have hlen : (recs ++ (W.take j).map fun b => (b, E)).length = recs.length + j := by simp; omega
  refine ⟨j, hj, hl, ?_, ?_, fun i b hb => ?_, ?_⟩
  · rw [laidR_app]
    refine ⟨laidR_congr recs 0 0 h.laid (fun i _ hi => (hout i (.inl (by omega))).symm), ?_⟩
    rw [Nat.zero_add, Nat.zero_add]
    exact h1
  · rw [rise_app]; exact ⟨h.rise, r1⟩
  · by_cases hi : nblk (recs.map (·.1)) ≤ i ∧ i < nblk (recs.map (·.1)) + nblk W
    · obtain ⟨T, hT, _, hz⟩ := hin i hi.1 hi.2
      rw [hT] at hb
      cases hb
      exact hz
    · rw [hout i (by omega)] at hb
      exact h.all i b hb
  · rw [hnb, hlen, lastE_app, r2]
    cases hr : recordM R' (nblk (recs.map (·.1)) + nblk (W.take j)) (recs.length + j) (if W.take j = [] then lastE 0 recs else E) with
    | none => rfl
    | some q =>
      exfalso
      obtain ⟨b, pn, x⟩ := q
      obtain ⟨p1, p2, p3, p4, f, hf, p5, p6, p7, p8, hg⟩ := record_in hr
      -- an old block behind the sure ones
      have old : ∀ i T, nblk (recs.map (·.1)) ≤ i → R[i]? = some T → num4 T < E := fun i T hi hT => (h.junk i T hi hT).1
      obtain ⟨T, hT, hTr, hTe⟩ := lk_num hf
      have hge := gath_in pn 0 hg
      by_cases hjW : j < W.length
      · have hjb : W[j]? = some W[j] := List.getElem?_eq_getElem hjW
        have hnt := nblk_take W j _ hjb
        have hnp := need_pos (W[j]).length
        have hnl := need_le (hW W[j] (List.getElem_mem hjW))
        obtain ⟨T', hT', hc, _⟩ := hin (nblk (recs.map (·.1)) + nblk (W.take j)) (by omega) (by omega)
        rw [hT] at hT'
        cases hT'
        rcases hc with hc | hc | hc
        · have ho := old _ T (by omega) hc
          by_cases hw0 : W.take j = []
          · rw [if_pos hw0] at hr
            have hn0 : nblk (W.take j) = 0 := by rw [hw0]; rfl
            have hj0 : j = 0 := by
              cases j with
              | zero => rfl
              | succ j => cases W with
                | nil => simp at hjW
                | cons a W => simp at hw0
            subst hj0
            rw [hn0, Nat.add_zero, Nat.add_zero] at hr
            have := record_congr (R' := R) hr (fun k hk => ?_)
            · rw [h.stop] at this; cases this
            · obtain ⟨y, hy, _, hye, _⟩ := hge k (Nat.zero_le _) (by omega)
              rw [hn0, Nat.add_zero] at hy
              obtain ⟨Y, hY, hYr, hYe⟩ := lk_num hy
              have hYE : num4 Y < E := by omega
              have : R[nblk (recs.map (·.1)) + k]? = R'[nblk (recs.map (·.1)) + k]? := by
                by_cases hi : nblk (recs.map (·.1)) + k < nblk (recs.map (·.1)) + nblk W
                · obtain ⟨Y', hY', hc', _⟩ := hin (nblk (recs.map (·.1)) + k) (by omega) hi
                  rw [hY] at hY'
                  cases hY'
                  rcases hc' with hc' | hc' | hc'
                  · rw [hc', hY]
                  · exfalso
                    -- a new block bears E
                    have hmem := List.mem_of_getElem? hc'
                    have : ∀ (l : List (List UInt8)) (p : Nat), ∀ Z ∈ blksOf E p l, num4 Z = E := by
                      intro l
                      induction l with
                      | nil => intro p Z hZ; simp [blksOf] at hZ
                      | cons a l ih =>
                        intro p Z hZ
                        rcases List.mem_append.1 hZ with hZ | hZ
                        · have : ∀ m i, ∀ Z ∈ partsL E p a m i, num4 Z = E := by
                            intro m
                            induction m with
                            | zero => intro i Z hZ; simp [partsL] at hZ
                            | succ m ihm =>
                              intro i Z hZ
                              rcases List.mem_cons.1 hZ with rfl | hZ
                              · exact num4_blk (by omega)
                              · exact ihm _ Z hZ
                          exact this _ _ Z hZ
                        · exact ih _ Z hZ
                    have := this W _ Y hmem
                    omega
                  · rw [hYr] at hc'; cases hc'
                · exact (hout _ (.inr (by omega))).symm
              unfold lk
              rw [this]
          · rw [if_neg hw0] at p4
            omega
        · rw [show nblk (recs.map (·.1)) + nblk (W.take j) - nblk (recs.map (·.1)) = nblk (W.take j) + 0 by omega, blks_at E W recs.length j 0 W[j] hjb hnp] at hc
          simp only [Option.some.injEq] at hc
          refine h2 W[j] hjb (fun k hk => ?_)
          have hfE : f.ep = E := by rw [hTe, ← hc, num4_blk (by omega)]
          have hfn : f.pn = needM (W[j]).length := by
            unfold lk at hf
            rw [hT, Option.bind_some, ← hc, read_blk (piece_len _ _) (by omega) (by omega) (by omega) (by omega)] at hf
            cases hf
            rfl
          obtain ⟨y, hy, _, hye, _⟩ := hge k (Nat.zero_le _) (by omega)
          obtain ⟨Y, hY, hYr, hYe⟩ := lk_num hy
          obtain ⟨Y', hY', hc', _⟩ := hin (nblk (recs.map (·.1)) + nblk (W.take j) + k) (by omega) (by omega)
          rw [hY] at hY'
          cases hY'
          rcases hc' with hc' | hc' | hc'
          · have := old _ Y (by omega) hc'
            omega
          · rw [show nblk (recs.map (·.1)) + nblk (W.take j) + k - nblk (recs.map (·.1)) = nblk (W.take j) + k by omega, blks_at E W recs.length j k W[j] hjb hk] at hc'
            rw [hY, hc']
          · rw [hYr] at hc'; cases hc'
        · rw [hTr] at hc; cases hc
      · have hje : j = W.length := by omega
        subst hje
        rw [List.take_length] at *
        have hT2 := hT
        rw [hout _ (.inr (Nat.le_refl _))] at hT2
        have ho := old _ T (by omega) hT2
        by_cases hw0 : W = []
        · subst hw0
          rw [if_pos rfl] at hr
          simp only [nblk, Nat.add_zero, List.length_nil] at hr
          have hRR : R' = R := by
            apply List.ext_getElem?
            intro i
            exact hout i (by simp [nblk]; omega)
          rw [hRR, h.stop] at hr
          cases hr
        · rw [if_neg hw0] at p4
          omega
end Go.Proofs.Ytmgkaoenjnnlmaa
