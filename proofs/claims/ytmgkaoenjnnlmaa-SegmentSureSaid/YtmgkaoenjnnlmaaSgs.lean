/- A segment on its disk, call by call: plain laws. -/
import Derived.Test.YtmgkaoenjnnlmaaSgi
namespace Go.Proofs.Ytmgkaoenjnnlmaa
open Go.NB (Dk val)
open Go.NB.Crc

def regL (l : List (List UInt8)) (frm n : Nat) : List (List UInt8) := (l.drop frm).take n
theorem regL_at (l : List (List UInt8)) (frm n i : Nat) : (regL l frm n)[i]? = if i < n then l[frm + i]? else none := by
  unfold regL
  rw [List.getElem?_take]
  split
  · rw [List.getElem?_drop]
  · rfl
theorem regL_len {l : List (List UInt8)} {frm n : Nat} (h : frm + n ≤ l.length) : (regL l frm n).length = n := by
  unfold regL; rw [List.length_take, List.length_drop]; omega

/-- A disk that runs on. -/
structure Runs (D : Dk) : Prop where
  down : D.down = false
  left : D.left = -1
theorem runs_write {D : Dk} (h : Runs D) {i : Nat} (hi : i < D.l.length) {b : List UInt8} (hb : b.length = 64) : D.write (i : Int) b = ({ D with waits := D.waits ++ [(i, b)] }, 0) := by
  have h0 : D.at_ (i : Int) = 0 := by
    unfold Dk.at_
    rw [h.down, if_neg (by simp), if_neg (by omega)]
  unfold Dk.write
  rw [h0, if_neg (by simp), if_neg (by rw [hb]; simp), if_neg (by rw [h.left]; decide), h.left]
  simp only [Int.toNat_natCast, Prod.mk.injEq, and_true]
  obtain ⟨l, w, lf, dn⟩ := D
  have := h.left
  simp only at this
  subst this
  rfl
theorem runs_sync {D : Dk} (h : Runs D) : D.sync = ({ D with l := Dk.lay D.l D.waits, waits := [] }, 0) := by
  obtain ⟨l, w, lf, dn⟩ := D
  have h1 := h.left
  have h2 := h.down
  simp only at h1 h2
  subst h1 h2
  rfl
theorem runs_read {D : Dk} (h : Runs D) (hw : D.waits = []) {i : Nat} (hi : i < D.l.length) : D.read (i : Int) = (D.l.getD i [], 0) := by
  have h0 : D.at_ (i : Int) = 0 := by
    unfold Dk.at_
    rw [h.down, if_neg (by simp), if_neg (by omega)]
  unfold Dk.read
  rw [h0, if_neg (by simp), hw, Int.toNat_natCast]
  rfl
theorem regM_runs {D : Dk} (h : Runs D) (hw : D.waits = []) {frm n : Nat} (hf : frm + n ≤ D.l.length) : regM D frm n = regL D.l frm n := by
  apply List.ext_getElem?
  intro i
  rw [regL_at]
  unfold regM
  rw [List.getElem?_map]
  by_cases hi : i < n
  · rw [if_pos hi, List.getElem?_range hi, Option.map_some, runs_read h hw (by omega), List.getD_eq_getElem?_getD, List.getElem?_eq_getElem (by omega)]
    rfl
  · rw [if_neg hi, List.getElem?_eq_none (by simp; omega)]
    rfl
theorem runs_wr {S : Sg} {b : List UInt8} : ∀ (n i : Nat) (D : Dk), Runs D → S.frm + S.used + i + n ≤ D.l.length →
    wrM S b (needM b.length) n i D = ({ D with waits := D.waits ++ ws (S.frm + S.used + i) (partsL S.epoch S.l.length b n i) }, 0)
  | 0, i, D, _, _ => by simp [wrM, partsL, ws]
  | n + 1, i, D, h, hl => by
    rw [wrM, runs_write h (by omega) (blkL_len _ _ _ _ _ (piece_len _ _)), if_neg (by simp)]
    refine (runs_wr n (i + 1) { D with waits := D.waits ++ [(S.frm + S.used + i, blkL S.epoch (S.l.length + 1) i (needM b.length) (piece b i))] } ⟨h.down, h.left⟩ (by simp only; omega)).trans ?_
    simp only [partsL, ws, List.append_assoc, List.singleton_append, Nat.add_assoc]

/-- A segment as it stands: what is sure, what waits. -/
structure Sys (D : Dk) (S : Sg) (recs : List Rec) (W : List (List UInt8)) : Prop where
  runs : Runs D
  reg : S.frm + S.n ≤ D.l.length
  n : S.n < 4294967295
  inv : SInv (regL D.l S.frm S.n) S.n S.epoch recs
  waits : D.waits = ws (S.frm + nblk (recs.map (·.1))) (blksOf S.epoch recs.length W)
  small : ∀ b ∈ W, b.length ≤ 4096
  l : S.l = recs.map (·.1) ++ W
  used : S.used = nblk S.l
  fit : S.used ≤ S.n
  sure : S.sure = recs.length
  e : S.e = 0
  ep : S.epoch < 256

theorem Sys.waits_len {D : Dk} {S : Sg} {recs : List Rec} {W : List (List UInt8)} (h : Sys D S recs W) : D.waits.length ≤ S.n := by
  rw [h.waits, ws_len, blks_len]
  have h1 := h.fit
  rw [h.used, h.l, nblk_app] at h1
  omega
theorem Sys.len {D : Dk} {S : Sg} {recs : List Rec} {W : List (List UInt8)} (h : Sys D S recs W) : S.l.length = recs.length + W.length := by rw [h.l]; simp

/-- A record more. -/
theorem sys_app {D : Dk} {S : Sg} {recs : List Rec} {W : List (List UInt8)} (h : Sys D S recs W) {b : List UInt8} (hb : b.length ≤ 4096) (hf : S.used + needM b.length ≤ S.n) :
    appM D S b = ({ D with waits := D.waits ++ ws (S.frm + S.used) (partsL S.epoch S.l.length b (needM b.length) 0) }, { S with l := S.l ++ [b], used := S.used + needM b.length }, S.l.length, 0) ∧
    Sys { D with waits := D.waits ++ ws (S.frm + S.used) (partsL S.epoch S.l.length b (needM b.length) 0) } { S with l := S.l ++ [b], used := S.used + needM b.length } recs (W ++ [b]) := by
  have hr := h.reg
  have hw := runs_wr (S := S) (b := b) (needM b.length) 0 D h.runs (by omega)
  rw [Nat.add_zero] at hw
  refine ⟨?_, ?_⟩
  · unfold appM
    rw [if_neg (by omega), if_neg (by rw [h.e]; simp), if_neg (by omega), hw]
    simp
  · refine { runs := ⟨h.runs.down, h.runs.left⟩, reg := h.reg, n := h.n, inv := h.inv, waits := ?_, small := fun c hc => ?_, l := ?_, used := ?_, fit := hf, sure := h.sure, e := h.e, ep := h.ep }
    · have h1 := h.used
      rw [h.l, nblk_app] at h1
      simp only
      rw [h.waits, blks_app, ws_app, blks_len, h.len, h1]
      simp only [blksOf, List.append_nil, Nat.add_assoc]
    · rcases List.mem_append.1 hc with hc | hc
      · exact h.small c hc
      · rw [List.mem_singleton.1 hc]; exact hb
    · simp only [h.l, List.append_assoc]
    · simp only [nblk_app, nblk, Nat.add_zero, h.used]
theorem app_big {D : Dk} {S : Sg} {b : List UInt8} (h : 4096 < b.length) : appM D S b = (D, S, 0, 13) := by unfold appM; rw [if_pos h]
theorem app_space {D : Dk} {S : Sg} {recs : List Rec} {W : List (List UInt8)} (h : Sys D S recs W) {b : List UInt8} (hb : b.length ≤ 4096) (hf : ¬ S.used + needM b.length ≤ S.n) : appM D S b = (D, S, 0, 21) := by
  unfold appM
  rw [if_neg (by omega), if_neg (by rw [h.e]; simp), if_pos (by omega)]

theorem lay_reg {l : List (List UInt8)} {frm n u : Nat} {B : List (List UInt8)} (hl : frm + n ≤ l.length) (hu : u + B.length ≤ n) (i : Nat) (hi : i < n) :
    (regL (Dk.lay l (ws (frm + u) B)) frm n)[i]? = if u ≤ i ∧ i < u + B.length then B[i - u]? else (regL l frm n)[i]? := by
  rw [regL_at, regL_at, if_pos hi, if_pos hi, lay_at B l (frm + u) (frm + i) (by omega)]
  by_cases h : u ≤ i ∧ i < u + B.length
  · rw [if_pos h, if_pos (by omega), show frm + i - (frm + u) = i - u by omega]
  · rw [if_neg h, if_neg (by omega)]

/-- The blocks of records that wait, laid. -/
theorem laid_all {R : List (List UInt8)} (E : Nat) (hE : E < 4294967296) : ∀ (W : List (List UInt8)) (p u : Nat), (∀ b ∈ W, b.length ≤ 4096) → (∀ i, i < nblk W → R[u + i]? = (blksOf E p W)[i]?) → LaidR R p u (W.map fun b => (b, E))
  | [], _, _, _, _ => trivial
  | b :: W, p, u, hW, hR => by
    refine ⟨⟨fun j hj => ?_, hW b (by simp), hE⟩, ?_⟩
    · rw [hR j (by simp only [nblk]; exact Nat.lt_of_lt_of_le hj (Nat.le_add_right _ _)), blksOf, List.getElem?_append_left (by rw [partsL_len]; exact hj), partsL_at _ _ _ _ _ _ hj, Nat.zero_add]
    · refine laid_all E hE W (p + 1) (u + needM b.length) (fun c hc => hW c (by simp [hc])) (fun i hi => ?_)
      have := hR (needM b.length + i) (by simp only [nblk]; omega)
      rw [show u + needM b.length + i = u + (needM b.length + i) by omega, this, blksOf, List.getElem?_append_right (by rw [partsL_len]; omega), partsL_len, show needM b.length + i - needM b.length = i by omega]
theorem blks_zb (E : Nat) (hE : E < 256) : ∀ (W : List (List UInt8)) (p : Nat), ∀ b ∈ blksOf E p W, Zb E b ∧ num4 b = E
  | [], _, b, h => by simp [blksOf] at h
  | a :: W, p, b, h => by
    rcases List.mem_append.1 h with h | h
    · have : ∀ m i, ∀ Z ∈ partsL E p a m i, Zb E Z ∧ num4 Z = E := by
        intro m
        induction m with
        | zero => intro i Z hZ; simp [partsL] at hZ
        | succ m ihm =>
          intro i Z hZ
          rcases List.mem_cons.1 hZ with rfl | hZ
          · exact ⟨zb_blk (piece_len _ _) hE, num4_blk (by omega)⟩
          · exact ihm _ Z hZ
      exact this _ _ b h
    · exact blks_zb E hE W (p + 1) b h

/-- All that waits is sure. -/
theorem sys_sync {D : Dk} {S : Sg} {recs : List Rec} {W : List (List UInt8)} (h : Sys D S recs W) :
    synM D S = ({ D with l := Dk.lay D.l D.waits, waits := [] }, { S with sure := S.l.length }, 0) ∧
    Sys { D with l := Dk.lay D.l D.waits, waits := [] } { S with sure := S.l.length } (recs ++ W.map fun b => (b, S.epoch)) [] := by
  have hu := h.used
  have hfit := h.fit
  rw [h.l, nblk_app] at hu
  have hm : (recs ++ W.map fun b => (b, S.epoch)).map (·.1) = S.l := by rw [h.l]; simp [Function.comp_def]
  have hlen : (Dk.lay D.l D.waits).length = D.l.length := lay_len _ _
  have hR := fun i hi => lay_reg (l := D.l) (frm := S.frm) (n := S.n) (u := nblk (recs.map (·.1))) (B := blksOf S.epoch recs.length W) h.reg (by rw [blks_len]; omega) i hi
  rw [← h.waits, blks_len] at hR
  have hout : ∀ i, i < nblk (recs.map (·.1)) ∨ nblk (recs.map (·.1)) + nblk W ≤ i → (regL (Dk.lay D.l D.waits) S.frm S.n)[i]? = (regL D.l S.frm S.n)[i]? := fun i hi => by
    by_cases hn : i < S.n
    · rw [hR i hn, if_neg (by omega)]
    · rw [regL_at, regL_at, if_neg hn, if_neg hn]
  have hin : ∀ i, i < nblk W → (regL (Dk.lay D.l D.waits) S.frm S.n)[nblk (recs.map (·.1)) + i]? = (blksOf S.epoch recs.length W)[i]? := fun i hi => by
    rw [hR _ (by omega), if_pos (by omega), show nblk (recs.map (·.1)) + i - nblk (recs.map (·.1)) = i by omega]
  have hle0 := lastE_le recs 0 (Nat.zero_le S.epoch) h.inv.le
  obtain ⟨r1, r2⟩ := rise_same S.epoch W (lastE 0 recs) hle0
  refine ⟨?_, ?_⟩
  · unfold synM
    rw [if_neg (by rw [h.e]; simp), runs_sync h.runs]
    simp
  · refine { runs := ⟨h.runs.down, h.runs.left⟩, reg := by simp only [hlen]; exact h.reg, n := h.n, inv := ?_, waits := ?_, small := by simp, l := ?_, used := h.used, fit := h.fit, sure := ?_, e := h.e, ep := h.ep }
    · have hz : ∀ (i : Nat) (b : List UInt8), (regL (Dk.lay D.l D.waits) S.frm S.n)[i]? = some b → Zb S.epoch b := fun i b hb => by
        by_cases hi : nblk (recs.map (·.1)) ≤ i ∧ i < nblk (recs.map (·.1)) + nblk W
        · have := hin (i - nblk (recs.map (·.1))) (by omega)
          rw [show nblk (recs.map (·.1)) + (i - nblk (recs.map (·.1))) = i by omega, hb] at this
          exact (blks_zb S.epoch h.ep W _ b (List.mem_of_getElem? this.symm)).1
        · rw [hout i (by omega)] at hb
          exact h.inv.all i b hb
      have hj : ∀ (i : Nat) (b : List UInt8), nblk S.l ≤ i → (regL (Dk.lay D.l D.waits) S.frm S.n)[i]? = some b → num4 b < S.epoch ∧ num4 (b.drop 60) < S.epoch := fun i b hi hb => by
        rw [h.l, nblk_app] at hi
        rw [hout i (by omega)] at hb
        exact h.inv.junk i b (by omega) hb
      refine { len := regL_len (by rw [hlen]; exact h.reg), laid := ?_, rise := ?_, all := hz, stop := ?_, le := fun r hr => ?_, junk := fun i b hi hb => hj i b (by rw [hm] at hi; exact hi) hb }
      · rw [laidR_app]
        refine ⟨laidR_congr recs 0 0 h.inv.laid (fun i _ hi => (hout i (.inl (by omega))).symm), ?_⟩
        rw [Nat.zero_add, Nat.zero_add]
        exact laid_all S.epoch (by have := h.ep; omega) W _ _ h.small hin
      · rw [rise_app]; exact ⟨h.inv.rise, r1⟩
      · rw [hm]
        by_cases hw : W = []
        · subst hw
          have hRR : regL (Dk.lay D.l D.waits) S.frm S.n = regL D.l S.frm S.n := by
            apply List.ext_getElem?
            intro i
            exact hout i (by simp [nblk]; omega)
          have hl := h.l
          rw [List.append_nil] at hl
          rw [hRR, hl]
          have := h.inv.stop
          simpa using this
        · rw [lastE_app, r2, if_neg hw]
          cases hr : recordM (regL (Dk.lay D.l D.waits) S.frm S.n) (nblk S.l) (recs ++ W.map fun b => (b, S.epoch)).length S.epoch with
          | none => rfl
          | some q =>
            obtain ⟨b, pn, x⟩ := q
            obtain ⟨_, _, _, p4, f, hf, p5, _⟩ := record_in hr
            obtain ⟨T, hT, _, hTe⟩ := lk_num hf
            have := (hj _ T (Nat.le_refl _) hT).1
            omega
      · rcases List.mem_append.1 hr with hr | hr
        · exact h.inv.le r hr
        · obtain ⟨b, _, rfl⟩ := List.mem_map.1 hr
          exact Nat.le_refl _
    · rfl
    · rw [hm, List.append_nil]
    · rw [List.length_append, List.length_map]; exact h.len

/-- Opened anew, with nothing that waits. -/
theorem sys_open {D : Dk} {frm n E : Nat} {recs : List Rec} (hr : Runs D) (hw : D.waits = []) (hreg : frm + n ≤ D.l.length) (hn : n < 4294967295) (h1 : 1 ≤ n) (hi : InvW (regL D.l frm n) n E recs) (hE : E + 1 < 256) :
    openE D (frm : Int) (n : Int) = 0 ∧ openS D (frm : Int) (n : Int) = ⟨frm, n, topM (regL D.l frm n) + 1, recs.map (·.1), nblk (recs.map (·.1)), recs.length, 0, 0⟩ ∧ Sys D (openS D (frm : Int) (n : Int)) recs [] ∧ (openS D (frm : Int) (n : Int)).epoch ≤ E + 1 := by
  obtain ⟨h2, h3, h4⟩ := inv_open hi hn frm
  have hR := regM_runs hr hw hreg
  have hS : openS D (frm : Int) (n : Int) = ⟨frm, n, topM (regL D.l frm n) + 1, recs.map (·.1), nblk (recs.map (·.1)), recs.length, 0, 0⟩ := by
    unfold openS
    rw [Int.toNat_natCast, Int.toNat_natCast, hR, h2]
  refine ⟨?_, hS, ?_, ?_⟩
  · unfold openE
    rw [if_neg (by omega), hr.down, if_neg (by simp), Int.toNat_natCast, Int.toNat_natCast, hR, if_neg (by omega)]
  · rw [hS]
    exact { runs := hr, reg := hreg, n := hn, inv := h3, waits := by rw [hw]; rfl, small := by simp, l := by simp, used := rfl, fit := hi.fit, sure := rfl, e := rfl, ep := by simp only; omega }
  · rw [hS]; simp only; omega

/-- A new disk. -/
theorem zero_none (R : List (List UInt8)) (hz : ∀ (i : Nat) (b : List UInt8), R[i]? = some b → b = List.replicate 64 0) (u p e : Nat) : recordM R u p e = none := by
  cases hr : recordM R u p e with
  | none => rfl
  | some q =>
    obtain ⟨b, pn, x⟩ := q
    obtain ⟨_, _, _, _, f, hf, _, _, p7, _⟩ := record_in hr
    exfalso
    unfold lk at hf
    cases hR : R[u]? with
    | none => rw [hR] at hf; cases hf
    | some b =>
      rw [hR, hz u b hR, Option.bind_some] at hf
      unfold readB at hf
      split at hf
      · have hpl : (bkOf (List.replicate 64 0)).pl = 0 := by decide
        injection hf with hf
        rw [← hf, hpl] at p7
        exact absurd p7 (by omega)
      · cases hf
theorem inv_fresh {m frm n : Nat} (h : frm + n ≤ m) : InvW (regL (Dk.fresh m).l frm n) n 0 [] := by
  have hz : ∀ (i : Nat) (b : List UInt8), (regL (Dk.fresh m).l frm n)[i]? = some b → b = List.replicate 64 0 := fun i b hb => by
    rw [regL_at] at hb
    split at hb
    · have := List.mem_of_getElem? hb
      exact (List.mem_replicate.1 this).2
    · cases hb
  exact { len := regL_len (by simpa [Dk.fresh] using h), laid := trivial, rise := trivial, all := fun i b hb => by rw [hz i b hb]; exact zb_zero 0, stop := zero_none _ hz _ _ _ }
theorem runs_fresh (m : Nat) : Runs (Dk.fresh m) := ⟨rfl, rfl⟩
theorem sys_fresh {m frm n : Nat} (h : frm + n ≤ m) (h1 : 1 ≤ n) (hn : n < 4294967295) :
    openE (Dk.fresh m) (frm : Int) (n : Int) = 0 ∧ openS (Dk.fresh m) (frm : Int) (n : Int) = ⟨frm, n, 1, [], 0, 0, 0, 0⟩ ∧ Sys (Dk.fresh m) (openS (Dk.fresh m) (frm : Int) (n : Int)) [] [] := by
  obtain ⟨a, b, c, d⟩ := sys_open (runs_fresh m) rfl (by simpa [Dk.fresh] using h) hn h1 (inv_fresh h) (by omega)
  refine ⟨a, ?_, c⟩
  rw [b] at d ⊢
  simp only at d
  simp only [List.map_nil, nblk, List.length_nil]
  congr 1
  omega
/-- The same segment, opened again behind a sync. -/
theorem sys_again {D : Dk} {S : Sg} {recs : List Rec} (h : Sys D S recs []) (h1 : 1 ≤ S.n) (hE : S.epoch + 1 < 256) :
    openE D (S.frm : Int) (S.n : Int) = 0 ∧ openS D (S.frm : Int) (S.n : Int) = ⟨S.frm, S.n, topM (regL D.l S.frm S.n) + 1, S.l, S.used, S.l.length, 0, 0⟩ ∧ Sys D (openS D (S.frm : Int) (S.n : Int)) recs [] ∧ (openS D (S.frm : Int) (S.n : Int)).epoch ≤ S.epoch + 1 := by
  have hw := h.waits
  simp only [blksOf, ws] at hw
  obtain ⟨a, b, c, d⟩ := sys_open h.runs hw h.reg h.n h1 h.inv.toInvW hE
  refine ⟨a, ?_, c, d⟩
  have hl := h.l
  rw [List.append_nil] at hl
  rw [b, h.used, hl, List.length_map]

/-- Behind a crash. -/
theorem sys_crash {D : Dk} {S : Sg} {recs : List Rec} {W : List (List UInt8)} (h : Sys D S recs W) (h1 : 1 ≤ S.n) (hE : S.epoch + 1 < 256) (pick : List UInt8) :
    ∃ j, j ≤ W.length ∧ openE (D.crash pick) (S.frm : Int) (S.n : Int) = 0 ∧
      openS (D.crash pick) (S.frm : Int) (S.n : Int) = ⟨S.frm, S.n, topM (regL (D.crash pick).l S.frm S.n) + 1, S.l.take (recs.length + j), nblk (S.l.take (recs.length + j)), recs.length + j, 0, 0⟩ ∧
      Sys (D.crash pick) (openS (D.crash pick) (S.frm : Int) (S.n : Int)) (recs ++ (W.take j).map fun b => (b, S.epoch)) [] ∧ (openS (D.crash pick) (S.frm : Int) (S.n : Int)).epoch ≤ S.epoch + 1 := by
  have hu := h.used
  have hfit := h.fit
  rw [h.l, nblk_app] at hu
  have hreg := h.reg
  have hlen : ∀ (W : List (Nat × List UInt8)) (l : List (List UInt8)), (Dk.tears l W pick).length = l.length := fun W l => Go.NB.tears_len W l pick
  have hcl : (D.crash pick).l = Dk.tears D.l (ws (S.frm + nblk (recs.map (·.1))) (blksOf S.epoch recs.length W)) pick := by rw [← h.waits]; rfl
  have hrc : Runs (D.crash pick) := ⟨rfl, rfl⟩
  have hreg' : S.frm + S.n ≤ (D.crash pick).l.length := by rw [hcl, hlen]; exact hreg
  have hat : ∀ i, i < S.n → (regL (D.crash pick).l S.frm S.n)[i]? = if nblk (recs.map (·.1)) ≤ i ∧ i < nblk (recs.map (·.1)) + nblk W ∧ i < nblk (recs.map (·.1)) + pick.length then ((blksOf S.epoch recs.length W)[i - nblk (recs.map (·.1))]?).map (fun b => tornB b (D.l.getD (S.frm + i) []) ((pick.getD (i - nblk (recs.map (·.1))) 0).toNat % 65)) else (regL D.l S.frm S.n)[i]? := fun i hi => by
    rw [regL_at, regL_at, if_pos hi, if_pos hi, hcl, tears_at _ _ _ _ _ (by rw [blks_len]; omega), blks_len]
    by_cases hc : nblk (recs.map (·.1)) ≤ i ∧ i < nblk (recs.map (·.1)) + nblk W ∧ i < nblk (recs.map (·.1)) + pick.length
    · rw [if_pos hc, if_pos (by omega), show S.frm + i - (S.frm + nblk (recs.map (·.1))) = i - nblk (recs.map (·.1)) by omega]
      rfl
    · rw [if_neg hc, if_neg (by omega)]
  obtain ⟨j, hj, hw⟩ := inv_crash (R := regL D.l S.frm S.n) (R' := regL (D.crash pick).l S.frm S.n) h.inv h.ep h.n W h.small (by omega) (regL_len hreg')
    (fun i h2 h3 => by
      have hold : (regL D.l S.frm S.n)[i]? = some (D.l.getD (S.frm + i) []) := by
        rw [regL_at, if_pos (by omega), List.getD_eq_getElem?_getD, List.getElem?_eq_getElem (by omega)]; rfl
      have hjk := h.inv.junk i _ h2 hold
      have hzo := h.inv.all i _ hold
      rw [hat i (by omega)]
      by_cases hc : nblk (recs.map (·.1)) ≤ i ∧ i < nblk (recs.map (·.1)) + nblk W ∧ i < nblk (recs.map (·.1)) + pick.length
      · rw [if_pos hc]
        have hB : (blksOf S.epoch recs.length W)[i - nblk (recs.map (·.1))]? = some ((blksOf S.epoch recs.length W).getD (i - nblk (recs.map (·.1))) []) := by
          rw [List.getD_eq_getElem?_getD, List.getElem?_eq_getElem (by rw [blks_len]; omega)]; rfl
        have hzb := blks_zb S.epoch h.ep W _ _ (List.mem_of_getElem? hB)
        rw [hB, Option.map_some]
        obtain ⟨t1, t2⟩ := torn_cases hzb.1 hzo hzb.2 hjk.2 ((pick.getD (i - nblk (recs.map (·.1))) 0).toNat % 65) (by omega)
        refine ⟨_, rfl, ?_, t2⟩
        rcases t1 with t1 | t1 | t1
        · left; rw [t1]; exact hold
        · right; left; rw [t1]
        · right; right; exact t1
      · rw [if_neg hc]
        exact ⟨_, hold, .inl hold, hzo⟩)
    (fun i hi => by
      by_cases hn : i < S.n
      · rw [hat i hn, if_neg (by omega)]
      · rw [regL_at, regL_at, if_neg hn, if_neg hn])
  obtain ⟨a, b, c, d⟩ := sys_open hrc rfl hreg' h.n h1 hw hE
  have hm : (recs ++ (W.take j).map fun b => (b, S.epoch)).map (·.1) = S.l.take (recs.length + j) := by
    rw [h.l, List.take_append, List.length_map, List.take_of_length_le (l := recs.map (·.1)) (by rw [List.length_map]; omega), show recs.length + j - recs.length = j by omega]
    simp [Function.comp_def]
  refine ⟨j, hj, a, ?_, c, d⟩
  rw [b, hm]
  simp only [List.length_append, List.length_map, List.length_take, Nat.min_eq_left hj]
end Go.Proofs.Ytmgkaoenjnnlmaa
