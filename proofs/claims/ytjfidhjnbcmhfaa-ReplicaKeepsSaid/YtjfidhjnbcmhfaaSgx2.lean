/- A segment and its disk: what stands there, whatever is appended, synced, crashed: plain laws. A segment on its disk, call by call: plain laws. A segment whose disk loses what waits, or stops: plain laws. A disk and a segment on it, as one thing whose blocks are named by nobody: the calls once more. A disk and a segment on it, beside blocks that are somebody else's: the calls keep those. -/
import Derived.Test.YtjfidhjnbcmhfaaSgp
import Derived.Test.YtjfidhjnbcmhfaaSgl
namespace Go.Proofs.Ytjfidhjnbcmhfaa
open Go.NB (Dk val)
open Go.NB.Crc

/-- What stands on a region: the records that are sure; behind them nothing that would be read. -/
structure InvW (R : List (List UInt8)) (n E : Nat) (recs : List Rec) : Prop where
  len : R.length = n
  laid : LaidR R 0 0 recs
  rise : Rise 0 recs
  all : ∀ (i : Nat) (b : List UInt8), R[i]? = some b → Zb E b
  stop : recordM R (nblk (recs.map (·.1))) recs.length (lastE 0 recs) = none
structure SInv (R : List (List UInt8)) (n E : Nat) (recs : List Rec) : Prop extends InvW R n E recs where
  le : ∀ r ∈ recs, r.2 ≤ E
  junk : ∀ (i : Nat) (b : List UInt8), nblk (recs.map (·.1)) ≤ i → R[i]? = some b → num4 b < E ∧ num4 (b.drop 60) < E

theorem need_pos (n : Nat) : 1 ≤ needM n := by unfold needM; omega
theorem nblk_ge : ∀ (l : List (List UInt8)), l.length ≤ nblk l
  | [] => Nat.le_refl _
  | b :: t => by have := need_pos b.length; have := nblk_ge t; simp only [nblk, List.length_cons]; omega
theorem laid_fit {R : List (List UInt8)} : ∀ (recs : List Rec) (p u : Nat), u ≤ R.length → LaidR R p u recs → u + nblk (recs.map (·.1)) ≤ R.length
  | [], _, u, hu, _ => by simpa [nblk] using hu
  | r :: t, p, u, _, ⟨⟨h1, _, _⟩, h4⟩ => by
    have hp := need_pos r.1.length
    have := (List.getElem?_eq_some_iff.1 (h1 (needM r.1.length - 1) (by omega))).1
    have h5 := laid_fit t (p + 1) (u + needM r.1.length) (by omega) h4
    simp only [List.map_cons, nblk]
    omega
theorem InvW.fit {R : List (List UInt8)} {n E : Nat} {recs : List Rec} (h : InvW R n E recs) : nblk (recs.map (·.1)) ≤ n := by
  have := laid_fit recs 0 0 (by omega) h.laid
  rw [h.len] at this
  omega
theorem InvW.few {R : List (List UInt8)} {n E : Nat} {recs : List Rec} (h : InvW R n E recs) : recs.length ≤ n := by
  have := nblk_ge (recs.map (·.1))
  have h2 := h.fit
  rw [List.length_map] at this
  omega

theorem top_go (R : List (List UInt8)) (E : Nat) : ∀ t, t ≤ E → (∀ b ∈ R, num4 b ≤ E ∧ num4 (b.drop 60) ≤ E) → R.foldl (fun t b => max t (max (num4 b) (num4 (b.drop 60)))) t ≤ E := by
  induction R with
  | nil => intro t h _; exact h
  | cons b R ih =>
    intro t h hb
    have := hb b (by simp)
    exact ih _ (by show max t (max (num4 b) (num4 (b.drop 60))) ≤ E; omega) (fun c hc => hb c (by simp [hc]))
theorem top_le {R : List (List UInt8)} {E : Nat} (h : ∀ b ∈ R, num4 b ≤ E ∧ num4 (b.drop 60) ≤ E) : topM R ≤ E := top_go R E 0 (Nat.zero_le _) h
theorem ge_go (R : List (List UInt8)) : ∀ t, t ≤ R.foldl (fun t b => max t (max (num4 b) (num4 (b.drop 60)))) t ∧ ∀ b ∈ R, num4 b ≤ R.foldl (fun t b => max t (max (num4 b) (num4 (b.drop 60)))) t ∧ num4 (b.drop 60) ≤ R.foldl (fun t b => max t (max (num4 b) (num4 (b.drop 60)))) t := by
  induction R with
  | nil => intro t; exact ⟨Nat.le_refl _, by simp⟩
  | cons c R ih =>
    intro t
    obtain ⟨h1, h2⟩ := ih (max t (max (num4 c) (num4 (c.drop 60))))
    refine ⟨Nat.le_trans (Nat.le_max_left _ _) h1, fun b hb => ?_⟩
    rcases List.mem_cons.1 hb with rfl | hb
    · have := Nat.le_max_right t (max (num4 b) (num4 (b.drop 60)))
      have h3 := Nat.le_trans this h1
      exact ⟨Nat.le_trans (Nat.le_max_left _ _) h3, Nat.le_trans (Nat.le_max_right _ _) h3⟩
    · exact h2 b hb
theorem top_ge {R : List (List UInt8)} {b : List UInt8} (h : b ∈ R) : num4 b ≤ topM R ∧ num4 (b.drop 60) ≤ topM R := (ge_go R 0).2 b h

theorem laid_ep {R : List (List UInt8)} : ∀ (recs : List Rec) (p u : Nat), LaidR R p u recs → ∀ r ∈ recs, r.2 ≤ topM R
  | [], _, _, _, _, h => by simp at h
  | a :: t, p, u, ⟨⟨h1, _, h3⟩, h4⟩, r, hr => by
    rcases List.mem_cons.1 hr with rfl | hr
    · have h5 := h1 0 (need_pos _)
      have := (top_ge (List.mem_of_getElem? h5)).1
      rw [num4_blk h3] at this
      exact this
    · exact laid_ep t _ _ h4 r hr

/-- Opened anew it has what stood there. -/
theorem inv_open {R : List (List UInt8)} {n E : Nat} {recs : List Rec} (h : InvW R n E recs) (hn : n < 4294967295) (frm : Nat) :
    openR frm n R = ⟨frm, n, topM R + 1, recs.map (·.1), nblk (recs.map (·.1)), recs.length, 0, 0⟩ ∧ SInv R n (topM R + 1) recs ∧ topM R ≤ E := by
  have hfew := h.few
  have ho := open_laid (R := R) recs [] 0 0 (R.length + 1) (R.length + 1) h.laid h.rise (by simp; omega) (by omega) (by omega)
  rw [List.nil_append, Nat.zero_add] at ho
  have ho := ho.trans (open_stop _ _ _ _ (by rw [List.length_map]; exact h.stop))
  have hall : ∀ b ∈ R, num4 b ≤ E ∧ num4 (b.drop 60) ≤ E := fun b hb => by
    obtain ⟨i, hi⟩ := List.mem_iff_getElem?.1 hb
    exact ⟨(h.all i b hi).le1, (h.all i b hi).le2⟩
  refine ⟨?_, ⟨⟨h.len, h.laid, h.rise, fun i b hb => ?_, h.stop⟩, fun r hr => ?_, fun i b _ hb => ?_⟩, top_le hall⟩
  · unfold openR; rw [ho]; simp
  · have := top_ge (List.mem_of_getElem? hb)
    have hz := h.all i b hb
    exact ⟨hz.len, hz.z1, hz.z2, by omega, by omega⟩
  · have := laid_ep recs 0 0 h.laid r hr; omega
  · have := top_ge (List.mem_of_getElem? hb)
    omega

/-- Which parts the blocks are of. -/
theorem blks_at (E : Nat) : ∀ (W : List (List UInt8)) (p j k : Nat) (b : List UInt8), W[j]? = some b → k < needM b.length →
    (blksOf E p W)[nblk (W.take j) + k]? = some (blkL E (p + j + 1) k (needM b.length) (piece b k))
  | [], _, j, _, _, h, _ => by simp at h
  | a :: W, p, 0, k, b, h, hk => by
    simp only [List.getElem?_cons_zero, Option.some.injEq] at h
    subst h
    simp only [List.take_zero, nblk, Nat.zero_add, blksOf]
    rw [List.getElem?_append_left (by rw [partsL_len]; exact hk), partsL_at E p a _ 0 k hk, Nat.zero_add, Nat.add_zero]
  | a :: W, p, j + 1, k, b, h, hk => by
    simp only [List.getElem?_cons_succ] at h
    simp only [List.take_succ_cons, nblk, blksOf]
    rw [List.getElem?_append_right (by rw [partsL_len]; omega), partsL_len, show needM a.length + nblk (W.take j) + k - needM a.length = nblk (W.take j) + k by omega, blks_at E W (p + 1) j k b h hk, show p + 1 + j + 1 = p + (j + 1) + 1 by omega]
theorem nblk_take (W : List (List UInt8)) (j : Nat) (b : List UInt8) (h : W[j]? = some b) : nblk (W.take j) + needM b.length ≤ nblk W := by
  have h1 : W = W.take j ++ b :: W.drop (j + 1) := by
    obtain ⟨hj, rfl⟩ := List.getElem?_eq_some_iff.1 h
    rw [← List.drop_eq_getElem_cons hj, List.take_append_drop]
  conv => rhs; rw [h1]
  rw [nblk_app, nblk]
  omega

theorem laid_front {R : List (List UInt8)} (E : Nat) (hE : E < 4294967296) : ∀ (W : List (List UInt8)) (p u : Nat), (∀ b ∈ W, b.length ≤ 4096) →
    ∃ j, j ≤ W.length ∧ LaidR R p u ((W.take j).map fun b => (b, E)) ∧ ∀ b, W[j]? = some b → ¬ LaidAt R (u + nblk (W.take j)) (p + j) E b
  | [], p, u, _ => ⟨0, Nat.le_refl _, trivial, by simp⟩
  | b :: W, p, u, hW => by
    by_cases hb : LaidAt R u p E b
    · obtain ⟨j, h1, h2, h3⟩ := laid_front E hE W (p + 1) (u + needM b.length) (fun c hc => hW c (by simp [hc]))
      refine ⟨j + 1, by simpa using h1, ⟨⟨hb, hW b (by simp), hE⟩, h2⟩, fun c hc => ?_⟩
      have := h3 c (by simpa using hc)
      simp only [List.take_succ_cons, nblk]
      rw [show u + (needM b.length + nblk (W.take j)) = u + needM b.length + nblk (W.take j) by omega, show p + (j + 1) = p + 1 + j by omega]
      exact this
    · refine ⟨0, Nat.zero_le _, trivial, fun c hc => ?_⟩
      simp only [List.getElem?_cons_zero, Option.some.injEq] at hc
      subst hc
      exact hb

/-- Behind a crash: each block that was written is the old one, the new one, or not right. -/
theorem inv_crash {R R' : List (List UInt8)} {n E : Nat} {recs : List Rec} (h : SInv R n E recs) (hE : E < 256) (hn : n < 4294967295) (W : List (List UInt8)) (hW : ∀ b ∈ W, b.length ≤ 4096)
    (hfit : nblk (recs.map (·.1)) + nblk W ≤ n) (hl : R'.length = n)
    (hin : ∀ i, nblk (recs.map (·.1)) ≤ i → i < nblk (recs.map (·.1)) + nblk W → ∃ T, R'[i]? = some T ∧ (R[i]? = some T ∨ (blksOf E recs.length W)[i - nblk (recs.map (·.1))]? = some T ∨ rightB T = false) ∧ Zb E T)
    (hout : ∀ i, i < nblk (recs.map (·.1)) ∨ nblk (recs.map (·.1)) + nblk W ≤ i → R'[i]? = R[i]?) :
    ∃ j, j ≤ W.length ∧ InvW R' n E (recs ++ (W.take j).map fun b => (b, E)) := by
  obtain ⟨j, hj, h1, h2⟩ := laid_front (R := R') E (by omega) W recs.length (nblk (recs.map (·.1))) hW
  have hle0 := lastE_le recs 0 (Nat.zero_le E) h.le
  obtain ⟨r1, r2⟩ := rise_same E (W.take j) (lastE 0 recs) hle0
  have hfew := h.toInvW.few
  have hu0 := h.toInvW.fit
  have hg1 := nblk_ge (recs.map (·.1))
  rw [List.length_map] at hg1
  have hg2 := nblk_ge W
  have hmap : (recs ++ (W.take j).map fun b => (b, E)).map (·.1) = recs.map (·.1) ++ W.take j := by simp [Function.comp_def]
  have hnb : nblk ((recs ++ (W.take j).map fun b => (b, E)).map (·.1)) = nblk (recs.map (·.1)) + nblk (W.take j) := by rw [hmap, nblk_app]
  have hlen : (recs ++ (W.take j).map fun b => (b, E)).length = recs.length + j := by simp; omega
  refine ⟨j, hj, hl, ?_, ?_, fun i b hb => ?_, ?_⟩
  · rw [laidR_app]
    refine ⟨laidR_congr recs 0 0 h.laid (fun i _ hi => (hout i (.inl (by omega))).symm), ?_⟩
    rw [Nat.zero_add, Nat.zero_add]
    exact h1
  · rw [rise_app]; exact ⟨h.rise, r1⟩
  · by_cases hi : nblk (recs.map (·.1)) ≤ i ∧ i < nblk (recs.map (·.1)) + nblk W
    · obtain ⟨T, hT, _, hz⟩ := hin i hi.1 hi.2
      rw [hT] at hb
      cases hb
      exact hz
    · rw [hout i (by omega)] at hb
      exact h.all i b hb
  · rw [hnb, hlen, lastE_app, r2]
    cases hr : recordM R' (nblk (recs.map (·.1)) + nblk (W.take j)) (recs.length + j) (if W.take j = [] then lastE 0 recs else E) with
    | none => rfl
    | some q =>
      exfalso
      obtain ⟨b, pn, x⟩ := q
      obtain ⟨p1, p2, p3, p4, f, hf, p5, p6, p7, p8, hg⟩ := record_in hr
      -- an old block behind the sure ones
      have old : ∀ i T, nblk (recs.map (·.1)) ≤ i → R[i]? = some T → num4 T < E := fun i T hi hT => (h.junk i T hi hT).1
      obtain ⟨T, hT, hTr, hTe⟩ := lk_num hf
      have hge := gath_in pn 0 hg
      by_cases hjW : j < W.length
      · have hjb : W[j]? = some W[j] := List.getElem?_eq_getElem hjW
        have hnt := nblk_take W j _ hjb
        have hnp := need_pos (W[j]).length
        have hnl := need_le (hW W[j] (List.getElem_mem hjW))
        obtain ⟨T', hT', hc, _⟩ := hin (nblk (recs.map (·.1)) + nblk (W.take j)) (by omega) (by omega)
        rw [hT] at hT'
        cases hT'
        rcases hc with hc | hc | hc
        · have ho := old _ T (by omega) hc
          by_cases hw0 : W.take j = []
          · rw [if_pos hw0] at hr
            have hn0 : nblk (W.take j) = 0 := by rw [hw0]; rfl
            have hj0 : j = 0 := by
              cases j with
              | zero => rfl
              | succ j => cases W with
                | nil => simp at hjW
                | cons a W => simp at hw0
            subst hj0
            rw [hn0, Nat.add_zero, Nat.add_zero] at hr
            have := record_congr (R' := R) hr (fun k hk => ?_)
            · rw [h.stop] at this; cases this
            · obtain ⟨y, hy, _, hye, _⟩ := hge k (Nat.zero_le _) (by omega)
              rw [hn0, Nat.add_zero] at hy
              obtain ⟨Y, hY, hYr, hYe⟩ := lk_num hy
              have hYE : num4 Y < E := by omega
              have : R[nblk (recs.map (·.1)) + k]? = R'[nblk (recs.map (·.1)) + k]? := by
                by_cases hi : nblk (recs.map (·.1)) + k < nblk (recs.map (·.1)) + nblk W
                · obtain ⟨Y', hY', hc', _⟩ := hin (nblk (recs.map (·.1)) + k) (by omega) hi
                  rw [hY] at hY'
                  cases hY'
                  rcases hc' with hc' | hc' | hc'
                  · rw [hc', hY]
                  · exfalso
                    -- a new block bears E
                    have hmem := List.mem_of_getElem? hc'
                    have : ∀ (l : List (List UInt8)) (p : Nat), ∀ Z ∈ blksOf E p l, num4 Z = E := by
                      intro l
                      induction l with
                      | nil => intro p Z hZ; simp [blksOf] at hZ
                      | cons a l ih =>
                        intro p Z hZ
                        rcases List.mem_append.1 hZ with hZ | hZ
                        · have : ∀ m i, ∀ Z ∈ partsL E p a m i, num4 Z = E := by
                            intro m
                            induction m with
                            | zero => intro i Z hZ; simp [partsL] at hZ
                            | succ m ihm =>
                              intro i Z hZ
                              rcases List.mem_cons.1 hZ with rfl | hZ
                              · exact num4_blk (by omega)
                              · exact ihm _ Z hZ
                          exact this _ _ Z hZ
                        · exact ih _ Z hZ
                    have := this W _ Y hmem
                    omega
                  · rw [hYr] at hc'; cases hc'
                · exact (hout _ (.inr (by omega))).symm
              unfold lk
              rw [this]
          · rw [if_neg hw0] at p4
            omega
        · rw [show nblk (recs.map (·.1)) + nblk (W.take j) - nblk (recs.map (·.1)) = nblk (W.take j) + 0 by omega, blks_at E W recs.length j 0 W[j] hjb hnp] at hc
          simp only [Option.some.injEq] at hc
          refine h2 W[j] hjb (fun k hk => ?_)
          have hfE : f.ep = E := by rw [hTe, ← hc, num4_blk (by omega)]
          have hfn : f.pn = needM (W[j]).length := by
            unfold lk at hf
            rw [hT, Option.bind_some, ← hc, read_blk (piece_len _ _) (by omega) (by omega) (by omega) (by omega)] at hf
            cases hf
            rfl
          obtain ⟨y, hy, _, hye, _⟩ := hge k (Nat.zero_le _) (by omega)
          obtain ⟨Y, hY, hYr, hYe⟩ := lk_num hy
          obtain ⟨Y', hY', hc', _⟩ := hin (nblk (recs.map (·.1)) + nblk (W.take j) + k) (by omega) (by omega)
          rw [hY] at hY'
          cases hY'
          rcases hc' with hc' | hc' | hc'
          · have := old _ Y (by omega) hc'
            omega
          · rw [show nblk (recs.map (·.1)) + nblk (W.take j) + k - nblk (recs.map (·.1)) = nblk (W.take j) + k by omega, blks_at E W recs.length j k W[j] hjb hk] at hc'
            rw [hY, hc']
          · rw [hYr] at hc'; cases hc'
        · rw [hTr] at hc; cases hc
      · have hje : j = W.length := by omega
        subst hje
        rw [List.take_length] at *
        have hT2 := hT
        rw [hout _ (.inr (Nat.le_refl _))] at hT2
        have ho := old _ T (by omega) hT2
        by_cases hw0 : W = []
        · subst hw0
          rw [if_pos rfl] at hr
          simp only [nblk, Nat.add_zero, List.length_nil] at hr
          have hRR : R' = R := by
            apply List.ext_getElem?
            intro i
            exact hout i (by simp [nblk]; omega)
          rw [hRR, h.stop] at hr
          cases hr
        · rw [if_neg hw0] at p4
          omega
end Go.Proofs.Ytjfidhjnbcmhfaa
namespace Go.Proofs.Ytjfidhjnbcmhfaa
open Go.NB (Dk val)
open Go.NB.Crc

def regL (l : List (List UInt8)) (frm n : Nat) : List (List UInt8) := (l.drop frm).take n
theorem regL_at (l : List (List UInt8)) (frm n i : Nat) : (regL l frm n)[i]? = if i < n then l[frm + i]? else none := by
  unfold regL
  rw [List.getElem?_take]
  split
  · rw [List.getElem?_drop]
  · rfl
theorem regL_len {l : List (List UInt8)} {frm n : Nat} (h : frm + n ≤ l.length) : (regL l frm n).length = n := by
  unfold regL; rw [List.length_take, List.length_drop]; omega

/-- A disk that runs on. -/
structure Runs (D : Dk) : Prop where
  down : D.down = false
  left : D.left = -1
theorem runs_write {D : Dk} (h : Runs D) {i : Nat} (hi : i < D.l.length) {b : List UInt8} (hb : b.length = 64) : D.write (i : Int) b = ({ D with waits := D.waits ++ [(i, b)] }, 0) := by
  have h0 : D.at_ (i : Int) = 0 := by
    unfold Dk.at_
    rw [h.down, if_neg (by simp), if_neg (by omega)]
  unfold Dk.write
  rw [h0, if_neg (by simp), if_neg (by rw [hb]; simp), if_neg (by rw [h.left]; decide), h.left]
  simp only [Int.toNat_natCast, Prod.mk.injEq, and_true]
  obtain ⟨l, w, lf, dn⟩ := D
  have := h.left
  simp only at this
  subst this
  rfl
theorem runs_sync {D : Dk} (h : Runs D) : D.sync = ({ D with l := Dk.lay D.l D.waits, waits := [] }, 0) := by
  obtain ⟨l, w, lf, dn⟩ := D
  have h1 := h.left
  have h2 := h.down
  simp only at h1 h2
  subst h1 h2
  rfl
theorem runs_read {D : Dk} (h : Runs D) (hw : D.waits = []) {i : Nat} (hi : i < D.l.length) : D.read (i : Int) = (D.l.getD i [], 0) := by
  have h0 : D.at_ (i : Int) = 0 := by
    unfold Dk.at_
    rw [h.down, if_neg (by simp), if_neg (by omega)]
  unfold Dk.read
  rw [h0, if_neg (by simp), hw, Int.toNat_natCast]
  rfl
theorem regM_runs {D : Dk} (h : Runs D) (hw : D.waits = []) {frm n : Nat} (hf : frm + n ≤ D.l.length) : regM D frm n = regL D.l frm n := by
  apply List.ext_getElem?
  intro i
  rw [regL_at]
  unfold regM
  rw [List.getElem?_map]
  by_cases hi : i < n
  · rw [if_pos hi, List.getElem?_range hi, Option.map_some, runs_read h hw (by omega), List.getD_eq_getElem?_getD, List.getElem?_eq_getElem (by omega)]
    rfl
  · rw [if_neg hi, List.getElem?_eq_none (by simp; omega)]
    rfl
theorem runs_wr {S : Sg} {b : List UInt8} : ∀ (n i : Nat) (D : Dk), Runs D → S.frm + S.used + i + n ≤ D.l.length →
    wrM S b (needM b.length) n i D = ({ D with waits := D.waits ++ ws (S.frm + S.used + i) (partsL S.epoch S.l.length b n i) }, 0)
  | 0, i, D, _, _ => by simp [wrM, partsL, ws]
  | n + 1, i, D, h, hl => by
    rw [wrM, runs_write h (by omega) (blkL_len _ _ _ _ _ (piece_len _ _)), if_neg (by simp)]
    refine (runs_wr n (i + 1) { D with waits := D.waits ++ [(S.frm + S.used + i, blkL S.epoch (S.l.length + 1) i (needM b.length) (piece b i))] } ⟨h.down, h.left⟩ (by simp only; omega)).trans ?_
    simp only [partsL, ws, List.append_assoc, List.singleton_append, Nat.add_assoc]

/-- A segment as it stands: what is sure, what waits. -/
structure Sys (D : Dk) (S : Sg) (recs : List Rec) (W : List (List UInt8)) : Prop where
  runs : Runs D
  reg : S.frm + S.n ≤ D.l.length
  n : S.n < 4294967295
  inv : SInv (regL D.l S.frm S.n) S.n S.epoch recs
  waits : D.waits = ws (S.frm + nblk (recs.map (·.1))) (blksOf S.epoch recs.length W)
  small : ∀ b ∈ W, b.length ≤ 4096
  l : S.l = recs.map (·.1) ++ W
  used : S.used = nblk S.l
  fit : S.used ≤ S.n
  sure : S.sure = recs.length
  e : S.e = 0
  ep : S.epoch < 256

theorem Sys.waits_len {D : Dk} {S : Sg} {recs : List Rec} {W : List (List UInt8)} (h : Sys D S recs W) : D.waits.length ≤ S.n := by
  rw [h.waits, ws_len, blks_len]
  have h1 := h.fit
  rw [h.used, h.l, nblk_app] at h1
  omega
theorem Sys.len {D : Dk} {S : Sg} {recs : List Rec} {W : List (List UInt8)} (h : Sys D S recs W) : S.l.length = recs.length + W.length := by rw [h.l]; simp

/-- A record more. -/
theorem sys_app {D : Dk} {S : Sg} {recs : List Rec} {W : List (List UInt8)} (h : Sys D S recs W) {b : List UInt8} (hb : b.length ≤ 4096) (hf : S.used + needM b.length ≤ S.n) :
    appM D S b = ({ D with waits := D.waits ++ ws (S.frm + S.used) (partsL S.epoch S.l.length b (needM b.length) 0) }, { S with l := S.l ++ [b], used := S.used + needM b.length }, S.l.length, 0) ∧
    Sys { D with waits := D.waits ++ ws (S.frm + S.used) (partsL S.epoch S.l.length b (needM b.length) 0) } { S with l := S.l ++ [b], used := S.used + needM b.length } recs (W ++ [b]) := by
  have hr := h.reg
  have hw := runs_wr (S := S) (b := b) (needM b.length) 0 D h.runs (by omega)
  rw [Nat.add_zero] at hw
  refine ⟨?_, ?_⟩
  · unfold appM
    rw [if_neg (by omega), if_neg (by rw [h.e]; simp), if_neg (by omega), hw]
    simp
  · refine { runs := ⟨h.runs.down, h.runs.left⟩, reg := h.reg, n := h.n, inv := h.inv, waits := ?_, small := fun c hc => ?_, l := ?_, used := ?_, fit := hf, sure := h.sure, e := h.e, ep := h.ep }
    · have h1 := h.used
      rw [h.l, nblk_app] at h1
      simp only
      rw [h.waits, blks_app, ws_app, blks_len, h.len, h1]
      simp only [blksOf, List.append_nil, Nat.add_assoc]
    · rcases List.mem_append.1 hc with hc | hc
      · exact h.small c hc
      · rw [List.mem_singleton.1 hc]; exact hb
    · simp only [h.l, List.append_assoc]
    · simp only [nblk_app, nblk, Nat.add_zero, h.used]
theorem app_big {D : Dk} {S : Sg} {b : List UInt8} (h : 4096 < b.length) : appM D S b = (D, S, 0, 13) := by unfold appM; rw [if_pos h]
theorem app_space {D : Dk} {S : Sg} {recs : List Rec} {W : List (List UInt8)} (h : Sys D S recs W) {b : List UInt8} (hb : b.length ≤ 4096) (hf : ¬ S.used + needM b.length ≤ S.n) : appM D S b = (D, S, 0, 21) := by
  unfold appM
  rw [if_neg (by omega), if_neg (by rw [h.e]; simp), if_pos (by omega)]

theorem lay_reg {l : List (List UInt8)} {frm n u : Nat} {B : List (List UInt8)} (hl : frm + n ≤ l.length) (hu : u + B.length ≤ n) (i : Nat) (hi : i < n) :
    (regL (Dk.lay l (ws (frm + u) B)) frm n)[i]? = if u ≤ i ∧ i < u + B.length then B[i - u]? else (regL l frm n)[i]? := by
  rw [regL_at, regL_at, if_pos hi, if_pos hi, lay_at B l (frm + u) (frm + i) (by omega)]
  by_cases h : u ≤ i ∧ i < u + B.length
  · rw [if_pos h, if_pos (by omega), show frm + i - (frm + u) = i - u by omega]
  · rw [if_neg h, if_neg (by omega)]

/-- The blocks of records that wait, laid. -/
theorem laid_all {R : List (List UInt8)} (E : Nat) (hE : E < 4294967296) : ∀ (W : List (List UInt8)) (p u : Nat), (∀ b ∈ W, b.length ≤ 4096) → (∀ i, i < nblk W → R[u + i]? = (blksOf E p W)[i]?) → LaidR R p u (W.map fun b => (b, E))
  | [], _, _, _, _ => trivial
  | b :: W, p, u, hW, hR => by
    refine ⟨⟨fun j hj => ?_, hW b (by simp), hE⟩, ?_⟩
    · rw [hR j (by simp only [nblk]; exact Nat.lt_of_lt_of_le hj (Nat.le_add_right _ _)), blksOf, List.getElem?_append_left (by rw [partsL_len]; exact hj), partsL_at _ _ _ _ _ _ hj, Nat.zero_add]
    · refine laid_all E hE W (p + 1) (u + needM b.length) (fun c hc => hW c (by simp [hc])) (fun i hi => ?_)
      have := hR (needM b.length + i) (by simp only [nblk]; omega)
      rw [show u + needM b.length + i = u + (needM b.length + i) by omega, this, blksOf, List.getElem?_append_right (by rw [partsL_len]; omega), partsL_len, show needM b.length + i - needM b.length = i by omega]
theorem blks_zb (E : Nat) (hE : E < 256) : ∀ (W : List (List UInt8)) (p : Nat), ∀ b ∈ blksOf E p W, Zb E b ∧ num4 b = E
  | [], _, b, h => by simp [blksOf] at h
  | a :: W, p, b, h => by
    rcases List.mem_append.1 h with h | h
    · have : ∀ m i, ∀ Z ∈ partsL E p a m i, Zb E Z ∧ num4 Z = E := by
        intro m
        induction m with
        | zero => intro i Z hZ; simp [partsL] at hZ
        | succ m ihm =>
          intro i Z hZ
          rcases List.mem_cons.1 hZ with rfl | hZ
          · exact ⟨zb_blk (piece_len _ _) hE, num4_blk (by omega)⟩
          · exact ihm _ Z hZ
      exact this _ _ b h
    · exact blks_zb E hE W (p + 1) b h

/-- All that waits is sure. -/
theorem sys_sync {D : Dk} {S : Sg} {recs : List Rec} {W : List (List UInt8)} (h : Sys D S recs W) :
    synM D S = ({ D with l := Dk.lay D.l D.waits, waits := [] }, { S with sure := S.l.length }, 0) ∧
    Sys { D with l := Dk.lay D.l D.waits, waits := [] } { S with sure := S.l.length } (recs ++ W.map fun b => (b, S.epoch)) [] := by
  have hu := h.used
  have hfit := h.fit
  rw [h.l, nblk_app] at hu
  have hm : (recs ++ W.map fun b => (b, S.epoch)).map (·.1) = S.l := by rw [h.l]; simp [Function.comp_def]
  have hlen : (Dk.lay D.l D.waits).length = D.l.length := lay_len _ _
  have hR := fun i hi => lay_reg (l := D.l) (frm := S.frm) (n := S.n) (u := nblk (recs.map (·.1))) (B := blksOf S.epoch recs.length W) h.reg (by rw [blks_len]; omega) i hi
  rw [← h.waits, blks_len] at hR
  have hout : ∀ i, i < nblk (recs.map (·.1)) ∨ nblk (recs.map (·.1)) + nblk W ≤ i → (regL (Dk.lay D.l D.waits) S.frm S.n)[i]? = (regL D.l S.frm S.n)[i]? := fun i hi => by
    by_cases hn : i < S.n
    · rw [hR i hn, if_neg (by omega)]
    · rw [regL_at, regL_at, if_neg hn, if_neg hn]
  have hin : ∀ i, i < nblk W → (regL (Dk.lay D.l D.waits) S.frm S.n)[nblk (recs.map (·.1)) + i]? = (blksOf S.epoch recs.length W)[i]? := fun i hi => by
    rw [hR _ (by omega), if_pos (by omega), show nblk (recs.map (·.1)) + i - nblk (recs.map (·.1)) = i by omega]
  have hle0 := lastE_le recs 0 (Nat.zero_le S.epoch) h.inv.le
  obtain ⟨r1, r2⟩ := rise_same S.epoch W (lastE 0 recs) hle0
  refine ⟨?_, ?_⟩
  · unfold synM
    rw [if_neg (by rw [h.e]; simp), runs_sync h.runs]
    simp
  · refine { runs := ⟨h.runs.down, h.runs.left⟩, reg := by simp only [hlen]; exact h.reg, n := h.n, inv := ?_, waits := ?_, small := by simp, l := ?_, used := h.used, fit := h.fit, sure := ?_, e := h.e, ep := h.ep }
    · have hz : ∀ (i : Nat) (b : List UInt8), (regL (Dk.lay D.l D.waits) S.frm S.n)[i]? = some b → Zb S.epoch b := fun i b hb => by
        by_cases hi : nblk (recs.map (·.1)) ≤ i ∧ i < nblk (recs.map (·.1)) + nblk W
        · have := hin (i - nblk (recs.map (·.1))) (by omega)
          rw [show nblk (recs.map (·.1)) + (i - nblk (recs.map (·.1))) = i by omega, hb] at this
          exact (blks_zb S.epoch h.ep W _ b (List.mem_of_getElem? this.symm)).1
        · rw [hout i (by omega)] at hb
          exact h.inv.all i b hb
      have hj : ∀ (i : Nat) (b : List UInt8), nblk S.l ≤ i → (regL (Dk.lay D.l D.waits) S.frm S.n)[i]? = some b → num4 b < S.epoch ∧ num4 (b.drop 60) < S.epoch := fun i b hi hb => by
        rw [h.l, nblk_app] at hi
        rw [hout i (by omega)] at hb
        exact h.inv.junk i b (by omega) hb
      refine { len := regL_len (by rw [hlen]; exact h.reg), laid := ?_, rise := ?_, all := hz, stop := ?_, le := fun r hr => ?_, junk := fun i b hi hb => hj i b (by rw [hm] at hi; exact hi) hb }
      · rw [laidR_app]
        refine ⟨laidR_congr recs 0 0 h.inv.laid (fun i _ hi => (hout i (.inl (by omega))).symm), ?_⟩
        rw [Nat.zero_add, Nat.zero_add]
        exact laid_all S.epoch (by have := h.ep; omega) W _ _ h.small hin
      · rw [rise_app]; exact ⟨h.inv.rise, r1⟩
      · rw [hm]
        by_cases hw : W = []
        · subst hw
          have hRR : regL (Dk.lay D.l D.waits) S.frm S.n = regL D.l S.frm S.n := by
            apply List.ext_getElem?
            intro i
            exact hout i (by simp [nblk]; omega)
          have hl := h.l
          rw [List.append_nil] at hl
          rw [hRR, hl]
          have := h.inv.stop
          simpa using this
        · rw [lastE_app, r2, if_neg hw]
          cases hr : recordM (regL (Dk.lay D.l D.waits) S.frm S.n) (nblk S.l) (recs ++ W.map fun b => (b, S.epoch)).length S.epoch with
          | none => rfl
          | some q =>
            obtain ⟨b, pn, x⟩ := q
            obtain ⟨_, _, _, p4, f, hf, p5, _⟩ := record_in hr
            obtain ⟨T, hT, _, hTe⟩ := lk_num hf
            have := (hj _ T (Nat.le_refl _) hT).1
            omega
      · rcases List.mem_append.1 hr with hr | hr
        · exact h.inv.le r hr
        · obtain ⟨b, _, rfl⟩ := List.mem_map.1 hr
          exact Nat.le_refl _
    · rfl
    · rw [hm, List.append_nil]
    · rw [List.length_append, List.length_map]; exact h.len

/-- Opened anew, with nothing that waits. -/
theorem sys_open {D : Dk} {frm n E : Nat} {recs : List Rec} (hr : Runs D) (hw : D.waits = []) (hreg : frm + n ≤ D.l.length) (hn : n < 4294967295) (h1 : 1 ≤ n) (hi : InvW (regL D.l frm n) n E recs) (hE : E + 1 < 256) :
    openE D (frm : Int) (n : Int) = 0 ∧ openS D (frm : Int) (n : Int) = ⟨frm, n, topM (regL D.l frm n) + 1, recs.map (·.1), nblk (recs.map (·.1)), recs.length, 0, 0⟩ ∧ Sys D (openS D (frm : Int) (n : Int)) recs [] ∧ (openS D (frm : Int) (n : Int)).epoch ≤ E + 1 := by
  obtain ⟨h2, h3, h4⟩ := inv_open hi hn frm
  have hR := regM_runs hr hw hreg
  have hS : openS D (frm : Int) (n : Int) = ⟨frm, n, topM (regL D.l frm n) + 1, recs.map (·.1), nblk (recs.map (·.1)), recs.length, 0, 0⟩ := by
    unfold openS
    rw [Int.toNat_natCast, Int.toNat_natCast, hR, h2]
  refine ⟨?_, hS, ?_, ?_⟩
  · unfold openE
    rw [if_neg (by omega), hr.down, if_neg (by simp), Int.toNat_natCast, Int.toNat_natCast, hR, if_neg (by omega)]
  · rw [hS]
    exact { runs := hr, reg := hreg, n := hn, inv := h3, waits := by rw [hw]; rfl, small := by simp, l := by simp, used := rfl, fit := hi.fit, sure := rfl, e := rfl, ep := by simp only; omega }
  · rw [hS]; simp only; omega

/-- A new disk. -/
theorem zero_none (R : List (List UInt8)) (hz : ∀ (i : Nat) (b : List UInt8), R[i]? = some b → b = List.replicate 64 0) (u p e : Nat) : recordM R u p e = none := by
  cases hr : recordM R u p e with
  | none => rfl
  | some q =>
    obtain ⟨b, pn, x⟩ := q
    obtain ⟨_, _, _, _, f, hf, _, _, p7, _⟩ := record_in hr
    exfalso
    unfold lk at hf
    cases hR : R[u]? with
    | none => rw [hR] at hf; cases hf
    | some b =>
      rw [hR, hz u b hR, Option.bind_some] at hf
      unfold readB at hf
      split at hf
      · have hpl : (bkOf (List.replicate 64 0)).pl = 0 := by decide
        injection hf with hf
        rw [← hf, hpl] at p7
        exact absurd p7 (by omega)
      · cases hf
theorem inv_fresh {m frm n : Nat} (h : frm + n ≤ m) : InvW (regL (Dk.fresh m).l frm n) n 0 [] := by
  have hz : ∀ (i : Nat) (b : List UInt8), (regL (Dk.fresh m).l frm n)[i]? = some b → b = List.replicate 64 0 := fun i b hb => by
    rw [regL_at] at hb
    split at hb
    · have := List.mem_of_getElem? hb
      exact (List.mem_replicate.1 this).2
    · cases hb
  exact { len := regL_len (by simpa [Dk.fresh] using h), laid := trivial, rise := trivial, all := fun i b hb => by rw [hz i b hb]; exact zb_zero 0, stop := zero_none _ hz _ _ _ }
theorem runs_fresh (m : Nat) : Runs (Dk.fresh m) := ⟨rfl, rfl⟩
theorem sys_fresh {m frm n : Nat} (h : frm + n ≤ m) (h1 : 1 ≤ n) (hn : n < 4294967295) :
    openE (Dk.fresh m) (frm : Int) (n : Int) = 0 ∧ openS (Dk.fresh m) (frm : Int) (n : Int) = ⟨frm, n, 1, [], 0, 0, 0, 0⟩ ∧ Sys (Dk.fresh m) (openS (Dk.fresh m) (frm : Int) (n : Int)) [] [] := by
  obtain ⟨a, b, c, d⟩ := sys_open (runs_fresh m) rfl (by simpa [Dk.fresh] using h) hn h1 (inv_fresh h) (by omega)
  refine ⟨a, ?_, c⟩
  rw [b] at d ⊢
  simp only at d
  simp only [List.map_nil, nblk, List.length_nil]
  congr 1
  omega
/-- The same segment, opened again behind a sync. -/
theorem sys_again {D : Dk} {S : Sg} {recs : List Rec} (h : Sys D S recs []) (h1 : 1 ≤ S.n) (hE : S.epoch + 1 < 256) :
    openE D (S.frm : Int) (S.n : Int) = 0 ∧ openS D (S.frm : Int) (S.n : Int) = ⟨S.frm, S.n, topM (regL D.l S.frm S.n) + 1, S.l, S.used, S.l.length, 0, 0⟩ ∧ Sys D (openS D (S.frm : Int) (S.n : Int)) recs [] ∧ (openS D (S.frm : Int) (S.n : Int)).epoch ≤ S.epoch + 1 := by
  have hw := h.waits
  simp only [blksOf, ws] at hw
  obtain ⟨a, b, c, d⟩ := sys_open h.runs hw h.reg h.n h1 h.inv.toInvW hE
  refine ⟨a, ?_, c, d⟩
  have hl := h.l
  rw [List.append_nil] at hl
  rw [b, h.used, hl, List.length_map]

/-- Behind a crash. -/
theorem sys_crash {D : Dk} {S : Sg} {recs : List Rec} {W : List (List UInt8)} (h : Sys D S recs W) (h1 : 1 ≤ S.n) (hE : S.epoch + 1 < 256) (pick : List UInt8) :
    ∃ j, j ≤ W.length ∧ openE (D.crash pick) (S.frm : Int) (S.n : Int) = 0 ∧
      openS (D.crash pick) (S.frm : Int) (S.n : Int) = ⟨S.frm, S.n, topM (regL (D.crash pick).l S.frm S.n) + 1, S.l.take (recs.length + j), nblk (S.l.take (recs.length + j)), recs.length + j, 0, 0⟩ ∧
      Sys (D.crash pick) (openS (D.crash pick) (S.frm : Int) (S.n : Int)) (recs ++ (W.take j).map fun b => (b, S.epoch)) [] ∧ (openS (D.crash pick) (S.frm : Int) (S.n : Int)).epoch ≤ S.epoch + 1 := by
  have hu := h.used
  have hfit := h.fit
  rw [h.l, nblk_app] at hu
  have hreg := h.reg
  have hlen : ∀ (W : List (Nat × List UInt8)) (l : List (List UInt8)), (Dk.tears l W pick).length = l.length := fun W l => Go.NB.tears_len W l pick
  have hcl : (D.crash pick).l = Dk.tears D.l (ws (S.frm + nblk (recs.map (·.1))) (blksOf S.epoch recs.length W)) pick := by rw [← h.waits]; rfl
  have hrc : Runs (D.crash pick) := ⟨rfl, rfl⟩
  have hreg' : S.frm + S.n ≤ (D.crash pick).l.length := by rw [hcl, hlen]; exact hreg
  have hat : ∀ i, i < S.n → (regL (D.crash pick).l S.frm S.n)[i]? = if nblk (recs.map (·.1)) ≤ i ∧ i < nblk (recs.map (·.1)) + nblk W ∧ i < nblk (recs.map (·.1)) + pick.length then ((blksOf S.epoch recs.length W)[i - nblk (recs.map (·.1))]?).map (fun b => tornB b (D.l.getD (S.frm + i) []) ((pick.getD (i - nblk (recs.map (·.1))) 0).toNat % 65)) else (regL D.l S.frm S.n)[i]? := fun i hi => by
    rw [regL_at, regL_at, if_pos hi, if_pos hi, hcl, tears_at _ _ _ _ _ (by rw [blks_len]; omega), blks_len]
    by_cases hc : nblk (recs.map (·.1)) ≤ i ∧ i < nblk (recs.map (·.1)) + nblk W ∧ i < nblk (recs.map (·.1)) + pick.length
    · rw [if_pos hc, if_pos (by omega), show S.frm + i - (S.frm + nblk (recs.map (·.1))) = i - nblk (recs.map (·.1)) by omega]
      rfl
    · rw [if_neg hc, if_neg (by omega)]
  obtain ⟨j, hj, hw⟩ := inv_crash (R := regL D.l S.frm S.n) (R' := regL (D.crash pick).l S.frm S.n) h.inv h.ep h.n W h.small (by omega) (regL_len hreg')
    (fun i h2 h3 => by
      have hold : (regL D.l S.frm S.n)[i]? = some (D.l.getD (S.frm + i) []) := by
        rw [regL_at, if_pos (by omega), List.getD_eq_getElem?_getD, List.getElem?_eq_getElem (by omega)]; rfl
      have hjk := h.inv.junk i _ h2 hold
      have hzo := h.inv.all i _ hold
      rw [hat i (by omega)]
      by_cases hc : nblk (recs.map (·.1)) ≤ i ∧ i < nblk (recs.map (·.1)) + nblk W ∧ i < nblk (recs.map (·.1)) + pick.length
      · rw [if_pos hc]
        have hB : (blksOf S.epoch recs.length W)[i - nblk (recs.map (·.1))]? = some ((blksOf S.epoch recs.length W).getD (i - nblk (recs.map (·.1))) []) := by
          rw [List.getD_eq_getElem?_getD, List.getElem?_eq_getElem (by rw [blks_len]; omega)]; rfl
        have hzb := blks_zb S.epoch h.ep W _ _ (List.mem_of_getElem? hB)
        rw [hB, Option.map_some]
        obtain ⟨t1, t2⟩ := torn_cases hzb.1 hzo hzb.2 hjk.2 ((pick.getD (i - nblk (recs.map (·.1))) 0).toNat % 65) (by omega)
        refine ⟨_, rfl, ?_, t2⟩
        rcases t1 with t1 | t1 | t1
        · left; rw [t1]; exact hold
        · right; left; rw [t1]
        · right; right; exact t1
      · rw [if_neg hc]
        exact ⟨_, hold, .inl hold, hzo⟩)
    (fun i hi => by
      by_cases hn : i < S.n
      · rw [hat i hn, if_neg (by omega)]
      · rw [regL_at, regL_at, if_neg hn, if_neg hn])
  obtain ⟨a, b, c, d⟩ := sys_open hrc rfl hreg' h.n h1 hw hE
  have hm : (recs ++ (W.take j).map fun b => (b, S.epoch)).map (·.1) = S.l.take (recs.length + j) := by
    rw [h.l, List.take_append, List.length_map, List.take_of_length_le (l := recs.map (·.1)) (by rw [List.length_map]; omega), show recs.length + j - recs.length = j by omega]
    simp [Function.comp_def]
  refine ⟨j, hj, a, ?_, c, d⟩
  rw [b, hm]
  simp only [List.length_append, List.length_map, List.length_take, Nat.min_eq_left hj]
end Go.Proofs.Ytjfidhjnbcmhfaa
namespace Go.Proofs.Ytjfidhjnbcmhfaa
open Go.NB (Dk val)
open Go.NB.Crc

/-- Of what waits nothing is there behind such a crash. -/
theorem sys_lost {D : Dk} {S : Sg} {recs : List Rec} {W : List (List UInt8)} (h : Sys D S recs W) (h1 : 1 ≤ S.n) (hE : S.epoch + 1 < 256) :
    openE (D.crash []) (S.frm : Int) (S.n : Int) = 0 ∧ openS (D.crash []) (S.frm : Int) (S.n : Int) = ⟨S.frm, S.n, topM (regL D.l S.frm S.n) + 1, recs.map (·.1), nblk (recs.map (·.1)), recs.length, 0, 0⟩ ∧
      Sys (D.crash []) (openS (D.crash []) (S.frm : Int) (S.n : Int)) recs [] := by
  have hl : (D.crash []).l = D.l := by
    unfold Dk.crash
    cases D.waits <;> rfl
  obtain ⟨a, b, c, _⟩ := sys_open (D := D.crash []) (frm := S.frm) (n := S.n) (E := S.epoch) (recs := recs) ⟨rfl, rfl⟩ rfl (by rw [hl]; exact h.reg) h.n h1 (by rw [hl]; exact h.inv.toInvW) hE
  rw [hl] at b
  exact ⟨a, b, c⟩

/-- A disk that stops behind k calls more, and one block's records: behind i of them. -/
structure Fails (L : List (List UInt8)) (n m k i : Nat) (D : Dk) (S : Sg) : Prop where
  len : D.l.length = m
  l : S.l.take n = L
  le : n ≤ S.l.length ∧ S.l.length ≤ n + i
  used : S.used = S.l.length
  sure : S.sure = n
  gone : S.gone = 0
  frm : S.frm = 0
  n : S.n = m
  w : D.waits.length ≤ i
  ok : i ≤ k → D.down = false ∧ D.left = (k : Int) - i ∧ S.e = 0
  bad : k < i → S.e = 20
theorem need_one (b : List UInt8) (h : b.length ≤ 45) : needM b.length = 1 := by unfold needM; omega
theorem app_left {D : Dk} {S : Sg} {b : List UInt8} (hb : b.length ≤ 45) (he : S.e = 0) (hf : S.used + 1 ≤ S.n) (hd : D.down = false) (hr : S.frm + S.n ≤ D.l.length) (hl : 0 < D.left) :
    appM D S b = ({ D with waits := D.waits ++ [(S.frm + S.used, blkL S.epoch (S.l.length + 1) 0 1 (piece b 0))], left := max (D.left - 1) (-1) }, { S with l := S.l ++ [b], used := S.used + 1 }, S.l.length, 0) := by
  have h0 : D.at_ ((S.frm + S.used + 0 : Nat) : Int) = 0 := by
    unfold Dk.at_
    rw [hd, if_neg (by simp), if_neg (by omega)]
  have hw : D.write ((S.frm + S.used + 0 : Nat) : Int) (blkL S.epoch (S.l.length + 1) 0 1 (piece b 0)) = ({ D with waits := D.waits ++ [(S.frm + S.used, blkL S.epoch (S.l.length + 1) 0 1 (piece b 0))], left := max (D.left - 1) (-1) }, 0) := by
    unfold Dk.write
    rw [h0, if_neg (by simp), if_neg (by rw [blkL_len _ _ _ _ _ (piece_len _ _)]; simp), if_neg (by omega), Int.toNat_natCast]
    rfl
  have hn := need_one b hb
  unfold appM
  rw [if_neg (by omega), if_neg (by rw [he]; simp), hn, if_neg (by omega)]
  simp only [wrM, hw]
  rw [if_neg (by simp), if_neg (by simp)]
theorem app_stop {D : Dk} {S : Sg} {b : List UInt8} (hb : b.length ≤ 45) (he : S.e = 0) (hf : S.used + 1 ≤ S.n) (hd : D.down = false) (hr : S.frm + S.n ≤ D.l.length) (hl : D.left = 0) :
    appM D S b = ({ D with down := true }, { S with e := 20 }, 0, 20) := by
  have h0 : D.at_ ((S.frm + S.used + 0 : Nat) : Int) = 0 := by
    unfold Dk.at_
    rw [hd, if_neg (by simp), if_neg (by omega)]
  have hw : D.write ((S.frm + S.used + 0 : Nat) : Int) (blkL S.epoch (S.l.length + 1) 0 1 (piece b 0)) = ({ D with down := true }, 20) := by
    unfold Dk.write
    rw [h0, if_neg (by simp), if_neg (by rw [blkL_len _ _ _ _ _ (piece_len _ _)]; simp), if_pos hl]
  have hn := need_one b hb
  unfold appM
  rw [if_neg (by omega), if_neg (by rw [he]; simp), hn, if_neg (by omega)]
  simp only [wrM, hw]
  rw [if_pos (by simp), if_pos (by simp)]
theorem app_err {D : Dk} {S : Sg} {b : List UInt8} (hb : b.length ≤ 4096) (he : S.e ≠ 0) : appM D S b = (D, S, 0, S.e) := by
  unfold appM
  rw [if_neg (by omega), if_pos he]
theorem fails_begin {D : Dk} {S : Sg} {recs : List Rec} (h : Sys D S recs []) (hg : S.gone = 0) (hf : S.frm = 0) (hm : D.l.length = S.n) (hu : S.used = S.l.length) (k : Nat) :
    Fails S.l S.l.length S.n k 0 (D.stop k) S where
  len := hm
  l := List.take_length
  le := ⟨Nat.le_refl _, Nat.le_refl _⟩
  used := hu
  sure := by rw [h.sure, h.len]; rfl
  gone := hg
  frm := hf
  n := rfl
  w := by
    have := h.waits
    simp only [blksOf, ws] at this
    simp only [Dk.stop, this, List.length_nil]
    exact Nat.le_refl _
  ok := fun _ => ⟨h.runs.down, by simp only [Dk.stop]; omega, h.e⟩
  bad := fun h => by omega
/-- One more record. -/
theorem fails_step {L : List (List UInt8)} {n m k i : Nat} {D : Dk} {S : Sg} (h : Fails L n m k i D S) (hm : n + i + 1 ≤ m) {b : List UInt8} (hb : b.length ≤ 45) :
    (appM D S b).2.2.2 = (if k ≤ i then 20 else 0) ∧ Fails L n m k (i + 1) (appM D S b).1 (appM D S b).2.1 := by
  have hle := h.le
  by_cases hk : i ≤ k
  · obtain ⟨h1, h2, h3⟩ := h.ok hk
    by_cases hz : i = k
    · have e := app_stop (D := D) (S := S) hb h3 (by rw [h.used, h.n]; omega) h1 (by rw [h.frm, h.n, h.len]; omega) (by omega)
      rw [e, if_pos (by omega)]
      exact ⟨rfl, { len := h.len, l := h.l, le := ⟨hle.1, by simp only; omega⟩, used := h.used, sure := h.sure, gone := h.gone, frm := h.frm, n := h.n, w := by have := h.w; simp only; omega, ok := fun hh => by omega, bad := fun _ => rfl }⟩
    · have e := app_left (D := D) (S := S) hb h3 (by rw [h.used, h.n]; omega) h1 (by rw [h.frm, h.n, h.len]; omega) (by omega)
      rw [e, if_neg (by omega)]
      refine ⟨rfl, { len := h.len, l := ?_, le := ⟨by simp only [List.length_append, List.length_singleton]; omega, by simp only [List.length_append, List.length_singleton]; omega⟩, used := by simp only [List.length_append, List.length_singleton, h.used], sure := h.sure, gone := h.gone, frm := h.frm, n := h.n, w := by have := h.w; simp only [List.length_append, List.length_singleton]; omega, ok := fun _ => ⟨h1, by simp only; omega, h3⟩, bad := fun hh => by omega }⟩
      simp only
      rw [List.take_append_of_le_length hle.1]
      exact h.l
  · have h3 := h.bad (by omega)
    have e := app_err (D := D) (S := S) (b := b) (by omega) (by rw [h3]; decide)
    rw [e, if_pos (by omega)]
    exact ⟨h3, { len := h.len, l := h.l, le := ⟨hle.1, by simp only; omega⟩, used := h.used, sure := h.sure, gone := h.gone, frm := h.frm, n := h.n, w := by have := h.w; simp only; omega, ok := fun hh => by omega, bad := fun _ => h3 }⟩
end Go.Proofs.Ytjfidhjnbcmhfaa
namespace Go.Proofs.Ytjfidhjnbcmhfaa
open Go.RowKit
open Go.NB (Rd Dk Kp Stp Off Dis val oneB dB I64)

/-- A disk that stands behind a world. -/
def Dd (w0 w : World) (p : Nat) (D : Dk) : Prop := ∃ based G, HasD w based p G D ∧ w0.heap.size ≤ based ∧ Below w0.heap.size w0 w
/-- A disk and a segment. -/
def Sd (w0 w : World) (q p : Nat) (D : Dk) (S : Sg) : Prop := ∃ base based F G, HasSg w base q p F S ∧ HasD w based p G D ∧ Dis F G ∧ w0.heap.size ≤ base ∧ w0.heap.size ≤ based ∧ Below w0.heap.size w0 w
/-- Bytes that lie outside of whatever stands behind w0 and in wb. -/
def OffW (w0 wb w : World) (a : Option Addr) (n c : Nat) (b : List UInt8) : Prop := NB.RdB w a n c b ∧ ∀ k o, a = some ⟨k, o, none⟩ → b ≠ [] → k < w0.heap.size ∨ wb.heap.size ≤ k
theorem offW_old {w0 wb : World} {a : Option Addr} {n c : Nat} {b : List UInt8} (h : NB.RdB w0 a n c b) (hb : Below w0.heap.size w0 wb) : OffW w0 wb wb a n c b :=
  ⟨h.below hb, fun k o e hn => .inl (h.lt k o e (by simpa using hn))⟩
theorem offW_new {w0 wb : World} {t : TypeId} {cs : Array Value} {b : List UInt8} {n g : Nat} {fr : Nat × Nat} (h : cs.toList = b.map NB.u8v) (hn : b.length = n) (hm : n ≤ maxLen) (hg : g = wb.heap.size) :
    OffW w0 wb (wb.alloc (.cells cs t fr)) (some ⟨g, 0, none⟩) n n b :=
  ⟨NB.rdB_lit b h hn hm hg, fun k o e _ => by cases e; omega⟩
theorem offW_own {w0 wb w : World} {t : TypeId} {b : List UInt8} {a : Option Addr} {c : Nat} (ho : NB.OwnB w wb.heap.size t (.slice a b.length c) b) : OffW w0 wb w a b.length c b := by
  obtain ⟨a1, c1, e1, hr, hl, _⟩ := NB.rd_of_own ho
  cases e1
  exact ⟨hr, fun k o e _ => .inr (hl k o e).1⟩
theorem offW_nil (w0 wb w : World) : OffW w0 wb w none 0 0 [] := ⟨NB.Rd.nil_mk, fun k o e => by cases e⟩
theorem OffW.off {w0 wb w : World} {a : Option Addr} {n c : Nat} {b : List UInt8} (h : OffW w0 wb w a n c b) {F : Nat → Prop} (hF : ∀ k, F k → w0.heap.size ≤ k ∧ k < wb.heap.size) : Off F w a n c b :=
  ⟨h.1, fun k o e hn hf => by have := hF k hf; have := h.2 k o e hn; omega⟩
section
variable {w0 w w' : World} {p q : Nat} {D D' : Dk} {S S' : Sg}
theorem Sd.dd (h : Sd w0 w q p D S) : Dd w0 w p D := by
  obtain ⟨base, based, F, G, h1, h2, h3, h4, h5, h6⟩ := h; exact ⟨based, G, h2, h5, h6⟩
theorem Sd.low (h : Sd w0 w q p D S) : Below w0.heap.size w0 w := by
  obtain ⟨base, based, F, G, h1, h2, h3, h4, h5, h6⟩ := h; exact h6
theorem Dd.low (h : Dd w0 w p D) : Below w0.heap.size w0 w := by
  obtain ⟨based, G, h2, h5, h6⟩ := h; exact h6
theorem Sd.below (h : Sd w0 w q p D S) (hb : Below w.heap.size w w') : Sd w0 w' q p D S := by
  obtain ⟨base, based, F, G, h1, h2, h3, h4, h5, h6⟩ := h
  exact ⟨base, based, F, G, h1.below hb, h2.below hb, h3, h4, h5, bel h6 hb h6.size⟩
theorem Dd.below (h : Dd w0 w p D) (hb : Below w.heap.size w w') : Dd w0 w' p D := by
  obtain ⟨based, G, h2, h5, h6⟩ := h
  exact ⟨based, G, h2.below hb, h5, bel h6 hb h6.size⟩
theorem Sd.alloc (h : Sd w0 w q p D S) (o : Obj) : Sd w0 (w.alloc o) q p D S := h.below ((Below.refl _ _).alloc (Nat.le_refl _) o)
theorem Dd.alloc (h : Dd w0 w p D) (o : Obj) : Dd w0 (w.alloc o) p D := h.below ((Below.refl _ _).alloc (Nat.le_refl _) o)
theorem Sd.l64 (h : Sd w0 w q p D S) : ∀ b ∈ D.l, b.length = 64 := by
  obtain ⟨base, based, F, G, h1, h2, _⟩ := h; exact h2.l64
end

/-- What a new disk's call leaves. -/
def NewDd (w0 : World) (n : Nat) (e : Ending) (w' : World) : Prop := ∃ p, e = .returned (.tuple #[.pointer (some ⟨p, 0, none⟩), .int .i64 0]) ∧ Dd w0 w' p (Dk.fresh n)
theorem qd_new (w0 w : World) (hb : Below w0.heap.size w0 w) (n : Nat) (h1 : 1 ≤ n) (h2 : n ≤ 65536) : Calls Try.prog 9 #[.int .i64 n] w (NewDd w0 n) :=
  (dnew_any w n h1 h2).mono fun e w' ⟨p, F, he, hd, hb'⟩ => ⟨p, he, _, F, hd, hb.size, bel hb hb' hb.size⟩
/-- What opening leaves. -/
def OpenSd (w0 : World) (p : Nat) (D : Dk) (frm n : Int) (e : Ending) (w' : World) : Prop :=
  (openE D frm n ≠ 0 ∧ e = .returned (.tuple #[.pointer none, .int .i64 (openE D frm n)]) ∧ Dd w0 w' p D) ∨
  (openE D frm n = 0 ∧ ∃ q, e = .returned (.tuple #[.pointer (some ⟨q, 0, none⟩), .int .i64 0]) ∧ Sd w0 w' q p D (openS D frm n))
theorem qs_open (w0 w : World) (p : Nat) (D : Dk) (frm n : Int) (h : Dd w0 w p D) (hwn : D.waits.length ≤ 1000000) (hi1 : I64 frm) (hi2 : I64 n) :
    Calls Try.prog 21 #[.pointer (some ⟨p, 0, none⟩), .int .i64 frm, .int .i64 n] w (OpenSd w0 p D frm n) := by
  have h0 := h
  obtain ⟨based, G, hD, h5, h6⟩ := h
  refine (sopen_any w based p G D frm n hD hwn hi1 hi2).mono ?_
  rintro e w' (⟨h1, h2, hb⟩ | ⟨h1, q, F, h2, hS, hb⟩)
  · exact .inl ⟨h1, h2, h0.below hb⟩
  · refine .inr ⟨h1, q, h2, _, based, F, G, hS, hD.below hb, fun k hf hg => ?_, h6.size, h5, bel h6 hb h6.size⟩
    have := (hS.foot k hf).1; have := (hD.foot k hg).2; omega
/-- What a call that answers an error leaves. -/
def ErrSd (w0 : World) (q p : Nat) (D : Dk) (S : Sg) (x : Int) (e : Ending) (w' : World) : Prop := e = .returned (.int .i64 x) ∧ Sd w0 w' q p D S
def NonSd (w0 : World) (q p : Nat) (D : Dk) (S : Sg) (e : Ending) (w' : World) : Prop := e = .returned (.tuple #[]) ∧ Sd w0 w' q p D S
def NonDd (w0 : World) (p : Nat) (D : Dk) (e : Ending) (w' : World) : Prop := e = .returned (.tuple #[]) ∧ Dd w0 w' p D
def AppSd (w0 : World) (q p : Nat) (r : Dk × Sg × Nat × Int) (e : Ending) (w' : World) : Prop := e = .returned (.tuple #[.int .i64 (r.2.2.1 : Int), .int .i64 r.2.2.2]) ∧ Sd w0 w' q p r.1 r.2.1
theorem did_sd {w0 w w' : World} {base q based p : Nat} {F G : Nat → Prop} {S' : Sg} {D' : Dk} (hF : ∀ k, F k → base ≤ k) (hG : ∀ k, G k → based ≤ k) (h4 : w0.heap.size ≤ base) (h5 : w0.heap.size ≤ based) (h6 : Below w0.heap.size w0 w)
    (h : DidS w base q based p F G S' D' w') : Sd w0 w' q p D' S' := by
  obtain ⟨F', G', a, b, c, d⟩ := h
  refine ⟨base, based, F', G', a, b, c, h4, h5, bel h6 (d.low (base := w0.heap.size) h6.size ?_) (Nat.le_refl _)⟩
  rintro k (hk | hk)
  · have := hF k hk; omega
  · have := hG k hk; omega
theorem qs_app (w0 wb w : World) (q p : Nat) (D : Dk) (S : Sg) (a : Option Addr) (n c : Nat) (b : List UInt8) (h : Sd w0 wb q p D S) (hb : Below wb.heap.size wb w) (ho : OffW w0 wb w a n c b) (hwn : D.waits.length ≤ 900000) (hn : n ≤ 1000000) :
    Calls Try.prog 42 #[.pointer (some ⟨q, 0, none⟩), .slice a n c] w (AppSd w0 q p (appM D S b)) := by
  obtain ⟨base, based, F, G, h1, h2, h3, h4, h5, h6⟩ := h
  have hof : Off (fun k => F k ∨ G k) w a n c b := ho.off fun k hk => hk.elim (fun hf => by have := h1.foot k hf; omega) (fun hf => by have := h2.foot k hf; omega)
  refine (sapp_any w base q based p F G S D a n c b (h1.below hb) (h2.below hb) h3 hof hwn hn).mono ?_
  rintro e w' ⟨rfl, hd⟩
  exact ⟨rfl, did_sd (fun k hk => (h1.foot k hk).1) (fun k hk => (h2.foot k hk).1) h4 h5 (bel h6 hb h6.size) hd⟩
theorem qs_sync (w0 w : World) (q p : Nat) (D : Dk) (S : Sg) (h : Sd w0 w q p D S) (hwn : D.waits.length ≤ 1000000) :
    Calls Try.prog 43 #[.pointer (some ⟨q, 0, none⟩)] w (ErrSd w0 q p (synM D S).1 (synM D S).2.1 (synM D S).2.2) := by
  obtain ⟨base, based, F, G, h1, h2, h3, h4, h5, h6⟩ := h
  refine (ssync_any w base q based p F G S D h1 h2 h3 hwn).mono ?_
  rintro e w' ⟨rfl, hd⟩
  exact ⟨rfl, did_sd (fun k hk => (h1.foot k hk).1) (fun k hk => (h2.foot k hk).1) h4 h5 h6 hd⟩
theorem qs_len (w0 w : World) (q p : Nat) (D : Dk) (S : Sg) (h : Sd w0 w q p D S) : Calls Try.prog 25 #[.pointer (some ⟨q, 0, none⟩)] w fun e w' => e = .returned (.int .i64 (S.l.length : Int)) ∧ w' = w := by
  obtain ⟨base, based, F, G, h1, _⟩ := h
  exact slen_any w base q p F S h1
theorem qs_sure (w0 w : World) (q p : Nat) (D : Dk) (S : Sg) (h : Sd w0 w q p D S) : Calls Try.prog 29 #[.pointer (some ⟨q, 0, none⟩)] w fun e w' => e = .returned (.int .i64 (S.sure : Int)) ∧ w' = w := by
  obtain ⟨base, based, F, G, h1, _⟩ := h
  exact ssure_any w base q p F S h1
theorem qs_free (w0 w : World) (q p : Nat) (D : Dk) (S : Sg) (h : Sd w0 w q p D S) : Calls Try.prog 56 #[.pointer (some ⟨q, 0, none⟩)] w fun e w' => e = .returned (.int .i64 ((S.n : Int) - (S.used : Int))) ∧ Sd w0 w' q p D S ∧ Below w.heap.size w w' := by
  have h0 := h
  obtain ⟨base, based, F, G, h1, _⟩ := h
  exact (sfree_any w base q p F S h1).mono fun e w' ⟨he, hb⟩ => ⟨he, h0.below hb, hb⟩
/-- What reading leaves. -/
def ReadSd (w0 wb : World) (q p : Nat) (D : Dk) (S : Sg) (r : List UInt8 × Int) (e : Ending) (w' : World) : Prop :=
  ∃ a c, e = .returned (.tuple #[.slice a r.1.length c, .int .i64 r.2]) ∧ NB.RdB w' a r.1.length c r.1 ∧ (∀ k o, a = some ⟨k, o, none⟩ → wb.heap.size ≤ k) ∧ Sd w0 w' q p D S
theorem qs_read (w0 w : World) (q p : Nat) (D : Dk) (S : Sg) (k : Int) (h : Sd w0 w q p D S) (hb : ∀ b ∈ S.l, b.length ≤ 100000) :
    Calls Try.prog 27 #[.pointer (some ⟨q, 0, none⟩), .int .i64 k] w (ReadSd w0 w q p D S (redM S k)) := by
  have h0 := h
  obtain ⟨base, based, F, G, h1, _⟩ := h
  refine (srd_any w base q p F S k h1 hb).mono ?_
  rintro e w' ⟨a, c, rfl, ho, hb'⟩
  obtain ⟨a1, c1, e1, hr, hl, _⟩ := NB.rd_of_own ho
  cases e1
  exact ⟨a, c, rfl, hr, fun k o e => (hl k o e).1, h0.below hb'⟩
/-- The disk's own calls; the segment stays as it was. -/
theorem qd_crash (w0 wb w : World) (p : Nat) (D : Dk) (a : Option Addr) (n c : Nat) (b : List UInt8) (h : Dd w0 wb p D) (hb : Below wb.heap.size wb w) (ho : OffW w0 wb w a n c b) (hwn : D.waits.length ≤ 1000000) :
    Calls Try.prog 17 #[.pointer (some ⟨p, 0, none⟩), .slice a n c] w (NonDd w0 p (D.crash b)) := by
  obtain ⟨based, G, h2, h5, h6⟩ := h
  have hof : Off G w a n c b := ho.off fun k hf => by have := h2.foot k hf; omega
  refine (dcrash_any w based p G D a n c b (h2.below hb) hof hwn).mono ?_
  rintro e w' ⟨rfl, G', hd, hs⟩
  exact ⟨rfl, based, G', hd, h5, bel (bel h6 hb h6.size) (hs.low (base := w0.heap.size) (Nat.le_trans h6.size hb.size) (fun k hk => by have := (h2.foot k hk).1; omega)) (Nat.le_refl _)⟩
theorem step_sd {w0 wb w w' : World} {base q based p : Nat} {F G G' : Nat → Prop} {S : Sg} {D D' : Dk} (h1 : HasSg wb base q p F S) (h2 : HasD wb based p G D) (h3 : Dis F G) (h4 : w0.heap.size ≤ base) (h5 : w0.heap.size ≤ based) (h6 : Below w0.heap.size w0 wb) (hb : Below wb.heap.size wb w) (hd : HasD w' based p G' D') (hs : Stp G G' w w') : Sd w0 w' q p D' S :=
  ⟨base, based, F, G', (h1.below hb).keep hs.kp h3, hd, h3.step (fun k hk => Nat.lt_of_lt_of_le (h1.foot k hk).2 hb.size) hs, h4, h5,
    bel (bel h6 hb h6.size) (hs.low (base := w0.heap.size) (Nat.le_trans h6.size hb.size) (fun k hk => by have := (h2.foot k hk).1; omega)) (Nat.le_refl _)⟩
theorem qs_write (w0 wb w : World) (q p : Nat) (D : Dk) (S : Sg) (i : Int) (a : Option Addr) (n c : Nat) (b : List UInt8) (h : Sd w0 wb q p D S) (hb : Below wb.heap.size wb w) (ho : OffW w0 wb w a n c b) (hwn : D.waits.length ≤ 1000000) :
    Calls Try.prog 59 #[.pointer (some ⟨p, 0, none⟩), .int .i64 i, .slice a n c] w (ErrSd w0 q p (D.write i b).1 S (D.write i b).2) := by
  obtain ⟨base, based, F, G, h1, h2, h3, h4, h5, h6⟩ := h
  have hof : Off G w a n c b := ho.off fun k hf => by have := h2.foot k hf; omega
  refine (dwrite_any w based p G D i a n c b (h2.below hb) hof hwn).mono ?_
  rintro e w' ⟨rfl, G', hd, hs⟩
  exact ⟨rfl, step_sd h1 h2 h3 h4 h5 h6 hb hd hs⟩
theorem qs_stop (w0 w : World) (q p : Nat) (D : Dk) (S : Sg) (x : Int) (hx : x ≤ 9223372036854775807) (h : Sd w0 w q p D S) :
    Calls Try.prog 16 #[.pointer (some ⟨p, 0, none⟩), .int .i64 x] w (NonSd w0 q p (D.stop x) S) := by
  obtain ⟨base, based, F, G, h1, h2, h3, h4, h5, h6⟩ := h
  refine (dstop_any w based p G D x hx h2).mono ?_
  rintro e w' ⟨rfl, G', hd, hs⟩
  exact ⟨rfl, step_sd h1 h2 h3 h4 h5 h6 (Below.refl _ _) hd hs⟩
end Go.Proofs.Ytjfidhjnbcmhfaa
namespace Go.Proofs.Ytjfidhjnbcmhfaa
open Go.RowKit
open Go.NB (Rd Dk Kp Stp Off Dis val oneB dB I64)

/-- As Sd, and all blocks of 'H' are there, and not its own. -/
def SdH (H : Nat → Prop) (w0 w : World) (q p : Nat) (D : Dk) (S : Sg) : Prop := ∃ base based F G, HasSg w base q p F S ∧ HasD w based p G D ∧ Dis F G ∧ w0.heap.size ≤ base ∧ w0.heap.size ≤ based ∧ Below w0.heap.size w0 w ∧ ∀ k, H k → k < w.heap.size ∧ ¬ F k ∧ ¬ G k
def DdH (H : Nat → Prop) (w0 w : World) (p : Nat) (D : Dk) : Prop := ∃ based G, HasD w based p G D ∧ w0.heap.size ≤ based ∧ Below w0.heap.size w0 w ∧ ∀ k, H k → k < w.heap.size ∧ ¬ G k
section
variable {w0 w w' : World} {p q : Nat} {D D' : Dk} {S S' : Sg} {H H' : Nat → Prop}
theorem Sd.sdh (h : Sd w0 w q p D S) : SdH (fun _ => False) w0 w q p D S := by
  obtain ⟨base, based, F, G, h1, h2, h3, h4, h5, h6⟩ := h
  exact ⟨base, based, F, G, h1, h2, h3, h4, h5, h6, fun k hk => hk.elim⟩
theorem SdH.sd (h : SdH H w0 w q p D S) : Sd w0 w q p D S := by
  obtain ⟨base, based, F, G, h1, h2, h3, h4, h5, h6, _⟩ := h
  exact ⟨base, based, F, G, h1, h2, h3, h4, h5, h6⟩
theorem SdH.ddh (h : SdH H w0 w q p D S) : DdH H w0 w p D := by
  obtain ⟨base, based, F, G, h1, h2, h3, h4, h5, h6, h7⟩ := h
  exact ⟨based, G, h2, h5, h6, fun k hk => ⟨(h7 k hk).1, (h7 k hk).2.2⟩⟩
theorem SdH.low (h : SdH H w0 w q p D S) : Below w0.heap.size w0 w := h.sd.low
theorem DdH.low (h : DdH H w0 w p D) : Below w0.heap.size w0 w := by
  obtain ⟨based, G, h2, h5, h6, h7⟩ := h; exact h6
theorem SdH.below (h : SdH H w0 w q p D S) (hb : Below w.heap.size w w') : SdH H w0 w' q p D S := by
  obtain ⟨base, based, F, G, h1, h2, h3, h4, h5, h6, h7⟩ := h
  exact ⟨base, based, F, G, h1.below hb, h2.below hb, h3, h4, h5, bel h6 hb h6.size, fun k hk => ⟨Nat.lt_of_lt_of_le (h7 k hk).1 hb.size, (h7 k hk).2⟩⟩
theorem DdH.below (h : DdH H w0 w p D) (hb : Below w.heap.size w w') : DdH H w0 w' p D := by
  obtain ⟨based, G, h2, h5, h6, h7⟩ := h
  exact ⟨based, G, h2.below hb, h5, bel h6 hb h6.size, fun k hk => ⟨Nat.lt_of_lt_of_le (h7 k hk).1 hb.size, (h7 k hk).2⟩⟩
/-- Somebody else's blocks turn: of what there was only 'H', and 'H'' lies in 'H', or is new. -/
theorem SdH.turn (h : SdH H w0 w q p D S) (hk : Kp H w w') (hs : ∀ k, H' k → k < w'.heap.size ∧ (H k ∨ w.heap.size ≤ k)) (hlow : ∀ k, H k → w0.heap.size ≤ k) : SdH H' w0 w' q p D S := by
  obtain ⟨base, based, F, G, h1, h2, h3, h4, h5, h6, h7⟩ := h
  refine ⟨base, based, F, G, h1.keep hk (fun k hf hh => (h7 k hh).2.1 hf), h2.keep hk (fun k hf hh => (h7 k hh).2.2 hf), h3, h4, h5, bel h6 (hk.belowB (B := w0.heap.size) h6.size hlow) (Nat.le_refl _), fun k hk' => ⟨(hs k hk').1, ?_⟩⟩
  rcases (hs k hk').2 with h8 | h8
  · exact (h7 k h8).2
  · exact ⟨fun hf => by have := (h1.foot k hf).2; omega, fun hf => by have := (h2.foot k hf).2; omega⟩
theorem SdH.imp (h : SdH H w0 w q p D S) (hs : ∀ k, H' k → H k) : SdH H' w0 w q p D S := by
  obtain ⟨base, based, F, G, h1, h2, h3, h4, h5, h6, h7⟩ := h
  exact ⟨base, based, F, G, h1, h2, h3, h4, h5, h6, fun k hk => h7 k (hs k hk)⟩
end
theorem did_sdh {H : Nat → Prop} {w0 w w' : World} {base q based p : Nat} {F G : Nat → Prop} {S' : Sg} {D' : Dk} (hF : ∀ k, F k → base ≤ k) (hG : ∀ k, G k → based ≤ k) (h4 : w0.heap.size ≤ base) (h5 : w0.heap.size ≤ based) (h6 : Below w0.heap.size w0 w)
    (h7 : ∀ k, H k → k < w.heap.size ∧ ¬ F k ∧ ¬ G k) (h : DidS w base q based p F G S' D' w') : SdH H w0 w' q p D' S' ∧ Kp (fun k => ¬ H k) w w' := by
  obtain ⟨F', G', a, b, c, d⟩ := h
  refine ⟨⟨base, based, F', G', a, b, c, h4, h5, bel h6 (d.low (base := w0.heap.size) h6.size ?_) (Nat.le_refl _), fun k hk => ?_⟩, d.kp.imp fun k hk hh => ?_⟩
  · rintro k (hk | hk)
    · have := hF k hk; omega
    · have := hG k hk; omega
  · have h8 := h7 k hk
    have hsz := d.size
    refine ⟨by omega, fun hf => ?_, fun hf => ?_⟩
    · rcases d.sub k (.inl hf) with (h9 | h9) | h9
      · exact h8.2.1 h9
      · exact h8.2.2 h9
      · omega
    · rcases d.sub k (.inr hf) with (h9 | h9) | h9
      · exact h8.2.1 h9
      · exact h8.2.2 h9
      · omega
  · have h8 := h7 k hh
    exact hk.elim h8.2.1 h8.2.2
def AppSdH (H : Nat → Prop) (w0 w : World) (q p : Nat) (r : Dk × Sg × Nat × Int) (e : Ending) (w' : World) : Prop := e = .returned (.tuple #[.int .i64 (r.2.2.1 : Int), .int .i64 r.2.2.2]) ∧ SdH H w0 w' q p r.1 r.2.1 ∧ Kp (fun k => ¬ H k) w w'
def ErrSdH (H : Nat → Prop) (w0 w : World) (q p : Nat) (D : Dk) (S : Sg) (x : Int) (e : Ending) (w' : World) : Prop := e = .returned (.int .i64 x) ∧ SdH H w0 w' q p D S ∧ Kp (fun k => ¬ H k) w w'
def NonSdH (H : Nat → Prop) (w0 w : World) (q p : Nat) (D : Dk) (S : Sg) (e : Ending) (w' : World) : Prop := e = .returned (.tuple #[]) ∧ SdH H w0 w' q p D S ∧ Kp (fun k => ¬ H k) w w'
theorem qh_app (H : Nat → Prop) (w0 wb w : World) (q p : Nat) (D : Dk) (S : Sg) (a : Option Addr) (n c : Nat) (b : List UInt8) (h : SdH H w0 wb q p D S) (hb : Below wb.heap.size wb w) (ho : OffW w0 wb w a n c b) (hwn : D.waits.length ≤ 900000) (hn : n ≤ 1000000) :
    Calls Try.prog 42 #[.pointer (some ⟨q, 0, none⟩), .slice a n c] w (AppSdH H w0 w q p (appM D S b)) := by
  obtain ⟨base, based, F, G, h1, h2, h3, h4, h5, h6, h7⟩ := h
  have hof : Off (fun k => F k ∨ G k) w a n c b := ho.off fun k hk => hk.elim (fun hf => by have := h1.foot k hf; omega) (fun hf => by have := h2.foot k hf; omega)
  refine (sapp_any w base q based p F G S D a n c b (h1.below hb) (h2.below hb) h3 hof hwn hn).mono ?_
  rintro e w' ⟨rfl, hd⟩
  exact ⟨rfl, did_sdh (fun k hk => (h1.foot k hk).1) (fun k hk => (h2.foot k hk).1) h4 h5 (bel h6 hb h6.size) (fun k hk => ⟨Nat.lt_of_lt_of_le (h7 k hk).1 hb.size, (h7 k hk).2⟩) hd⟩
theorem qh_sync (H : Nat → Prop) (w0 w : World) (q p : Nat) (D : Dk) (S : Sg) (h : SdH H w0 w q p D S) (hwn : D.waits.length ≤ 1000000) :
    Calls Try.prog 43 #[.pointer (some ⟨q, 0, none⟩)] w (ErrSdH H w0 w q p (synM D S).1 (synM D S).2.1 (synM D S).2.2) := by
  obtain ⟨base, based, F, G, h1, h2, h3, h4, h5, h6, h7⟩ := h
  refine (ssync_any w base q based p F G S D h1 h2 h3 hwn).mono ?_
  rintro e w' ⟨rfl, hd⟩
  exact ⟨rfl, did_sdh (fun k hk => (h1.foot k hk).1) (fun k hk => (h2.foot k hk).1) h4 h5 h6 h7 hd⟩
def NonDdH (H : Nat → Prop) (w0 w : World) (p : Nat) (D : Dk) (e : Ending) (w' : World) : Prop := e = .returned (.tuple #[]) ∧ DdH H w0 w' p D ∧ Kp (fun k => ¬ H k) w w'
theorem qg_crash (H : Nat → Prop) (w0 wb w : World) (p : Nat) (D : Dk) (a : Option Addr) (n c : Nat) (b : List UInt8) (h : DdH H w0 wb p D) (hb : Below wb.heap.size wb w) (ho : OffW w0 wb w a n c b) (hwn : D.waits.length ≤ 1000000) :
    Calls Try.prog 17 #[.pointer (some ⟨p, 0, none⟩), .slice a n c] w (NonDdH H w0 w p (D.crash b)) := by
  obtain ⟨based, G, h2, h5, h6, h7⟩ := h
  have hof : Off G w a n c b := ho.off fun k hf => by have := h2.foot k hf; omega
  refine (dcrash_any w based p G D a n c b (h2.below hb) hof hwn).mono ?_
  rintro e w' ⟨rfl, G', hd, hs⟩
  refine ⟨rfl, ⟨based, G', hd, h5, bel (bel h6 hb h6.size) (hs.low (base := w0.heap.size) (Nat.le_trans h6.size hb.size) (fun k hk => by have := (h2.foot k hk).1; omega)) (Nat.le_refl _), fun k hk => ?_⟩, hs.kp.imp fun k hk hh => (h7 k hh).2 hk⟩
  have h8 := h7 k hk
  have h9 := hb.size
  have h10 := hs.size
  refine ⟨by omega, fun hf => ?_⟩
  rcases hs.sub k hf with h11 | h11
  · exact h8.2 h11
  · omega
def OpenSdH (H : Nat → Prop) (w0 w : World) (p : Nat) (D : Dk) (frm n : Int) (e : Ending) (w' : World) : Prop :=
  (openE D frm n ≠ 0 ∧ e = .returned (.tuple #[.pointer none, .int .i64 (openE D frm n)]) ∧ DdH H w0 w' p D ∧ Below w.heap.size w w') ∨
  (openE D frm n = 0 ∧ ∃ q, e = .returned (.tuple #[.pointer (some ⟨q, 0, none⟩), .int .i64 0]) ∧ SdH H w0 w' q p D (openS D frm n) ∧ Below w.heap.size w w')
theorem qg_open (H : Nat → Prop) (w0 w : World) (p : Nat) (D : Dk) (frm n : Int) (h : DdH H w0 w p D) (hwn : D.waits.length ≤ 1000000) (hi1 : I64 frm) (hi2 : I64 n) :
    Calls Try.prog 21 #[.pointer (some ⟨p, 0, none⟩), .int .i64 frm, .int .i64 n] w (OpenSdH H w0 w p D frm n) := by
  have h0 := h
  obtain ⟨based, G, hD, h5, h6, h7⟩ := h
  refine (sopen_any w based p G D frm n hD hwn hi1 hi2).mono ?_
  rintro e w' (⟨h1, h2, hb⟩ | ⟨h1, q, F, h2, hS, hb⟩)
  · exact .inl ⟨h1, h2, h0.below hb, hb⟩
  · refine .inr ⟨h1, q, h2, ⟨_, based, F, G, hS, hD.below hb, fun k hf hg => ?_, h6.size, h5, bel h6 hb h6.size, fun k hk => ⟨Nat.lt_of_lt_of_le (h7 k hk).1 hb.size, fun hf => ?_, (h7 k hk).2⟩⟩, hb⟩
    · have := (hS.foot k hf).1; have := (hD.foot k hg).2; omega
    · have := (hS.foot k hf).1; have := (h7 k hk).1; omega
theorem step_sdh {H : Nat → Prop} {w0 wb w w' : World} {base q based p : Nat} {F G G' : Nat → Prop} {S : Sg} {D D' : Dk} (h1 : HasSg wb base q p F S) (h2 : HasD wb based p G D) (h3 : Dis F G) (h4 : w0.heap.size ≤ base) (h5 : w0.heap.size ≤ based) (h6 : Below w0.heap.size w0 wb) (h7 : ∀ k, H k → k < wb.heap.size ∧ ¬ F k ∧ ¬ G k) (hb : Below wb.heap.size wb w) (hd : HasD w' based p G' D') (hs : Stp G G' w w') : SdH H w0 w' q p D' S ∧ Kp (fun k => ¬ H k) w w' := by
  refine ⟨⟨base, based, F, G', (h1.below hb).keep hs.kp h3, hd, h3.step (fun k hk => Nat.lt_of_lt_of_le (h1.foot k hk).2 hb.size) hs, h4, h5,
    bel (bel h6 hb h6.size) (hs.low (base := w0.heap.size) (Nat.le_trans h6.size hb.size) (fun k hk => by have := (h2.foot k hk).1; omega)) (Nat.le_refl _), fun k hk => ?_⟩, hs.kp.imp fun k hk hh => (h7 k hh).2.2 hk⟩
  have h8 := h7 k hk
  have h9 := hb.size
  have h10 := hs.size
  refine ⟨by omega, h8.2.1, fun hf => ?_⟩
  rcases hs.sub k hf with h11 | h11
  · exact h8.2.2 h11
  · omega
theorem qh_write (H : Nat → Prop) (w0 wb w : World) (q p : Nat) (D : Dk) (S : Sg) (i : Int) (a : Option Addr) (n c : Nat) (b : List UInt8) (h : SdH H w0 wb q p D S) (hb : Below wb.heap.size wb w) (ho : OffW w0 wb w a n c b) (hwn : D.waits.length ≤ 1000000) :
    Calls Try.prog 59 #[.pointer (some ⟨p, 0, none⟩), .int .i64 i, .slice a n c] w (ErrSdH H w0 w q p (D.write i b).1 S (D.write i b).2) := by
  obtain ⟨base, based, F, G, h1, h2, h3, h4, h5, h6, h7⟩ := h
  have hof : Off G w a n c b := ho.off fun k hf => by have := h2.foot k hf; omega
  refine (dwrite_any w based p G D i a n c b (h2.below hb) hof hwn).mono ?_
  rintro e w' ⟨rfl, G', hd, hs⟩
  exact ⟨rfl, step_sdh h1 h2 h3 h4 h5 h6 h7 hb hd hs⟩
theorem qh_stop (H : Nat → Prop) (w0 w : World) (q p : Nat) (D : Dk) (S : Sg) (x : Int) (hx : x ≤ 9223372036854775807) (h : SdH H w0 w q p D S) :
    Calls Try.prog 16 #[.pointer (some ⟨p, 0, none⟩), .int .i64 x] w (NonSdH H w0 w q p (D.stop x) S) := by
  obtain ⟨base, based, F, G, h1, h2, h3, h4, h5, h6, h7⟩ := h
  refine (dstop_any w based p G D x hx h2).mono ?_
  rintro e w' ⟨rfl, G', hd, hs⟩
  exact ⟨rfl, step_sdh h1 h2 h3 h4 h5 h6 h7 (Below.refl _ _) hd hs⟩
/-- What reading leaves. -/
def ReadSdH (H : Nat → Prop) (w0 wb : World) (q p : Nat) (D : Dk) (S : Sg) (r : List UInt8 × Int) (e : Ending) (w' : World) : Prop :=
  ∃ a c, e = .returned (.tuple #[.slice a r.1.length c, .int .i64 r.2]) ∧ NB.RdB w' a r.1.length c r.1 ∧ (∀ k o, a = some ⟨k, o, none⟩ → wb.heap.size ≤ k) ∧ SdH H w0 w' q p D S ∧ Below wb.heap.size wb w'
theorem qh_read (H : Nat → Prop) (w0 w : World) (q p : Nat) (D : Dk) (S : Sg) (k : Int) (h : SdH H w0 w q p D S) (hb : ∀ b ∈ S.l, b.length ≤ 100000) :
    Calls Try.prog 27 #[.pointer (some ⟨q, 0, none⟩), .int .i64 k] w (ReadSdH H w0 w q p D S (redM S k)) := by
  have h0 := h
  obtain ⟨base, based, F, G, h1, _⟩ := h
  refine (srd_any w base q p F S k h1 hb).mono ?_
  rintro e w' ⟨a, c, rfl, ho, hb'⟩
  obtain ⟨a1, c1, e1, hr, hl, _⟩ := NB.rd_of_own ho
  cases e1
  exact ⟨a, c, rfl, hr, fun k o e => (hl k o e).1, h0.below hb', hb'⟩
end Go.Proofs.Ytjfidhjnbcmhfaa
