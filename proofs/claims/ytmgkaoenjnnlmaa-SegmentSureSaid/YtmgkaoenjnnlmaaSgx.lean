/- What the loops of the segment's statements keep: plain laws. -/
import Derived.Test.YtmgkaoenjnnlmaaSgq
namespace Go.Proofs.Ytmgkaoenjnnlmaa
open Go.NB (Dk val)
open Go.NB.Crc

/-- Records are short. -/
theorem laidR_short {R : List (List UInt8)} : ∀ (recs : List Rec) (p u : Nat), LaidR R p u recs → ∀ r ∈ recs, r.1.length ≤ 4096
  | [], _, _, _, r, hr => by cases hr
  | x :: recs, p, u, h, r, hr => by
    rcases List.mem_cons.1 hr with rfl | hr
    · exact h.1.2.1
    · exact laidR_short recs _ _ h.2 r hr
theorem Sys.short {D : Dk} {S : Sg} {recs : List Rec} {W : List (List UInt8)} (h : Sys D S recs W) : ∀ b ∈ S.l, b.length ≤ 100000 := fun b hb => by
  rw [h.l] at hb
  rcases List.mem_append.1 hb with hb | hb
  · obtain ⟨r, hr, rfl⟩ := List.mem_map.1 hb
    have := laidR_short recs _ _ h.inv.laid r hr
    omega
  · have := h.small b hb
    omega

/-! ### SegmentRoom -/
structure RoomI (k u m : Nat) (D : Dk) (S : Sg) : Prop where
  sys : ∃ W, Sys D S [] W
  n : S.n = k
  u : S.used = u
  m : S.l.length = m
theorem room_begin (k : Nat) (h1 : 1 ≤ k) (h2 : k ≤ 1000) : openE (Dk.fresh k) 0 (k : Int) = 0 ∧ RoomI k 0 0 (Dk.fresh k) (openS (Dk.fresh k) 0 (k : Int)) := by
  obtain ⟨a, b, c⟩ := sys_fresh (m := k) (frm := 0) (n := k) (by omega) h1 (by omega)
  refine ⟨a, ⟨_, c⟩, ?_, ?_, ?_⟩ <;> rw [show (0 : Int) = ((0 : Nat) : Int) from rfl, b]
  rfl
theorem RoomI.waits {k u m : Nat} {D : Dk} {S : Sg} (h : RoomI k u m D S) : D.waits.length ≤ k := by
  obtain ⟨W, hs⟩ := h.sys
  have := hs.waits_len
  rw [h.n] at this; exact this
theorem RoomI.le {k u m : Nat} {D : Dk} {S : Sg} (h : RoomI k u m D S) : u ≤ k := by
  obtain ⟨W, hs⟩ := h.sys
  have := hs.fit
  rw [h.n, h.u] at this; exact this
theorem room_step {k u m : Nat} {D : Dk} {S : Sg} (h : RoomI k u m D S) (b : List UInt8) (hb : b.length ≤ 4096) (hf : u + needM b.length ≤ k) :
    ∃ D' S', appM D S b = (D', S', m, 0) ∧ RoomI k (u + needM b.length) (m + 1) D' S' := by
  obtain ⟨W, hs⟩ := h.sys
  obtain ⟨a, c⟩ := sys_app hs hb (by rw [h.u, h.n]; exact hf)
  exact ⟨_, _, a.trans (by rw [h.m]), ⟨_, c⟩, h.n, by simp only [h.u], by simp only [List.length_append, List.length_singleton, h.m]⟩
theorem room_full {k u m : Nat} {D : Dk} {S : Sg} (h : RoomI k u m D S) (b : List UInt8) (hb : b.length ≤ 4096) (hf : ¬ u + needM b.length ≤ k) : appM D S b = (D, S, 0, 21) := by
  obtain ⟨W, hs⟩ := h.sys
  exact app_space hs hb (by rw [h.u, h.n]; exact hf)

/-! ### SegmentAgain -/
structure AgI (l : List (List UInt8)) (i k : Nat) (D : Dk) (S : Sg) : Prop where
  sys : ∃ recs W, Sys D S recs W
  frm : S.frm = 0
  n : S.n = 100
  l : S.l = l.take i
  used : S.used ≤ 5 * i
  ep : S.epoch ≤ k
  gone : S.gone = 0
theorem ag_begin (l : List (List UInt8)) : openE (Dk.fresh 100) 0 100 = 0 ∧ AgI l 0 1 (Dk.fresh 100) (openS (Dk.fresh 100) 0 100) := by
  obtain ⟨a, b, c⟩ := sys_fresh (m := 100) (frm := 0) (n := 100) (by omega) (by omega) (by omega)
  have b' : openS (Dk.fresh 100) 0 100 = ⟨0, 100, 1, [], 0, 0, 0, 0⟩ := b
  refine ⟨a, ⟨_, _, c⟩, ?_, ?_, ?_, ?_, ?_, ?_⟩ <;> rw [b']
  · rfl
  · exact Nat.zero_le _
  · exact Nat.le_refl _
theorem AgI.waits {l : List (List UInt8)} {i k : Nat} {D : Dk} {S : Sg} (h : AgI l i k D S) : D.waits.length ≤ 100 := by
  obtain ⟨recs, W, hs⟩ := h.sys
  have := hs.waits_len
  rw [h.n] at this; exact this
theorem ag_app {l : List (List UInt8)} {i k : Nat} {D : Dk} {S : Sg} (h : AgI l i k D S) (hi : i < l.length) (h12 : l.length ≤ 12) (b : List UInt8) (hb : l.getD i [] = b) (h200 : b.length ≤ 200) :
    ∃ D' S', appM D S b = (D', S', i, 0) ∧ AgI l (i + 1) k D' S' := by
  obtain ⟨recs, W, hs⟩ := h.sys
  have hn : needM b.length ≤ 5 := by unfold needM; omega
  have hu := h.used
  obtain ⟨a, c⟩ := sys_app hs (b := b) (by omega) (by rw [h.n]; omega)
  have hlen : S.l.length = i := by rw [h.l, List.length_take]; omega
  refine ⟨_, _, a.trans (by rw [hlen]), ⟨_, _, c⟩, h.frm, h.n, ?_, by simp only; omega, h.ep, h.gone⟩
  simp only
  rw [h.l, List.take_add_one, List.getElem?_eq_getElem hi]
  rw [List.getD_eq_getElem?_getD, List.getElem?_eq_getElem hi] at hb
  simp only [Option.getD_some] at hb
  rw [hb]; rfl
theorem ag_again {l : List (List UInt8)} {i k : Nat} {D : Dk} {S : Sg} (h : AgI l i k D S) (hk : k ≤ 100) (hi : i ≤ l.length) :
    ∃ D' S' S2, synM D S = (D', S', 0) ∧ openE D' 0 100 = 0 ∧ openS D' 0 100 = S2 ∧ AgI l i (k + 1) D' S2 ∧ AgI l i k D' S' ∧ S2.n = S'.n ∧ S2.used = S'.used ∧ S2.sure = i := by
  obtain ⟨recs, W, hs⟩ := h.sys
  have hep := h.ep
  have hlen : S.l.length = i := by rw [h.l, List.length_take]; omega
  obtain ⟨a, c⟩ := sys_sync hs
  obtain ⟨d, e, f, g⟩ := sys_again c (by simp only [h.n]; omega) (by simp only; omega)
  simp only [h.frm, h.n] at d e f g
  have e' : openS _ 0 100 = _ := e
  have f' : Sys _ (openS _ 0 100) _ _ := f
  have g' : (openS _ 0 100).epoch ≤ _ := g
  refine ⟨_, _, _, a, d, rfl, ⟨⟨_, _, f'⟩, ?_, ?_, ?_, ?_, by omega, ?_⟩, ⟨⟨_, _, c⟩, h.frm, h.n, h.l, h.used, h.ep, h.gone⟩, ?_, ?_, ?_⟩ <;> rw [e']
  · exact h.l
  · exact h.used
  · exact h.n.symm
  · exact hlen
theorem ag_read {l : List (List UInt8)} {k : Nat} {D : Dk} {S : Sg} (h : AgI l l.length k D S) (i : Nat) (hi : i < l.length) : redM S (i : Int) = (l.getD i [], 0) := by
  have hl := h.l
  rw [List.take_length] at hl
  unfold redM
  rw [hl, if_neg (by omega), if_neg (by rw [h.gone]; omega), Int.toNat_natCast]

/-! ### SegmentGives -/
def oneL (i : Nat) : List UInt8 := [UInt8.ofNat i]
structure GvI (m i s : Nat) (D : Dk) (S : Sg) : Prop where
  sys : ∃ recs W, Sys D S recs W
  n : S.n = m
  l : S.l = (List.range i).map oneL
  used : S.used = i
  sure : S.sure = s
  gone : S.gone = 0
theorem gv_begin (m : Nat) (h1 : 1 ≤ m) (h2 : m ≤ 1000) : openE (Dk.fresh m) 0 (m : Int) = 0 ∧ GvI m 0 0 (Dk.fresh m) (openS (Dk.fresh m) 0 (m : Int)) ∧ (openS (Dk.fresh m) 0 (m : Int)).frm = 0 := by
  obtain ⟨a, b, c⟩ := sys_fresh (m := m) (frm := 0) (n := m) (by omega) h1 (by omega)
  have b' : openS (Dk.fresh m) 0 (m : Int) = ⟨0, m, 1, [], 0, 0, 0, 0⟩ := b
  refine ⟨a, ⟨⟨_, _, c⟩, ?_, ?_, ?_, ?_, ?_⟩, ?_⟩ <;> rw [b']
  rfl
theorem GvI.waits {m i s : Nat} {D : Dk} {S : Sg} (h : GvI m i s D S) : D.waits.length ≤ m := by
  obtain ⟨recs, W, hs⟩ := h.sys
  have := hs.waits_len
  rw [h.n] at this; exact this
theorem need_oneL (i : Nat) : needM (oneL i).length = 1 := by show needM 1 = 1; decide
theorem gv_app {m i s : Nat} {D : Dk} {S : Sg} (h : GvI m i s D S) (hi : i < m) : ∃ D' S', appM D S (oneL i) = (D', S', i, 0) ∧ GvI m (i + 1) s D' S' ∧ S'.frm = S.frm ∧ D'.l.length = D.l.length := by
  obtain ⟨recs, W, hs⟩ := h.sys
  obtain ⟨a, c⟩ := sys_app hs (b := oneL i) (by unfold oneL; simp) (by rw [need_oneL, h.used, h.n]; omega)
  have hlen : S.l.length = i := by rw [h.l]; simp
  refine ⟨_, _, a.trans (by rw [hlen]), ⟨⟨_, _, c⟩, h.n, ?_, ?_, h.sure, h.gone⟩, rfl, rfl⟩
  · simp only; rw [h.l, List.range_succ, List.map_append]; rfl
  · simp only; rw [h.used, need_oneL]
theorem gv_sync {m i s : Nat} {D : Dk} {S : Sg} (h : GvI m i s D S) : ∃ D' S', synM D S = (D', S', 0) ∧ GvI m i i D' S' ∧ S'.frm = S.frm ∧ D'.l.length = D.l.length ∧ (∃ recs, Sys D' S' recs []) := by
  obtain ⟨recs, W, hs⟩ := h.sys
  obtain ⟨a, c⟩ := sys_sync hs
  have hlen : S.l.length = i := by rw [h.l]; simp
  exact ⟨_, _, a, ⟨⟨_, _, c⟩, h.n, h.l, h.used, hlen, h.gone⟩, rfl, lay_len _ _, _, c⟩
theorem gv_read {i : Nat} {S : Sg} {g : Nat} (hl : S.l = (List.range i).map oneL) (hg : S.gone = g) (j : Nat) (hj : j < i) : redM S (j : Int) = if j < g then ([], 35) else (oneL j, 0) := by
  unfold redM
  have hlen : S.l.length = i := by rw [hl]; simp
  rw [if_neg (by omega)]
  by_cases h : j < g
  · rw [if_pos (by omega), if_pos h]
  · rw [if_neg (by omega), if_neg h, Int.toNat_natCast, hl]
    simp [List.getD_eq_getElem?_getD, hj]

/-! ### SegmentErrs -/
theorem er_begin {n m k : Nat} {D : Dk} {S : Sg} (h : GvI m n n D S) (hf : S.frm = 0) (hm : D.l.length = m) (hs : ∃ recs, Sys D S recs []) : Fails ((List.range n).map oneL) n m k 0 (D.stop k) S := by
  obtain ⟨recs, hs⟩ := hs
  have hlen : S.l.length = n := by rw [h.l]; simp
  have := fails_begin hs h.gone hf (by rw [hm, h.n]) (by rw [h.used, hlen]) k
  rw [hlen, h.n, h.l] at this
  exact this
theorem er_read {n m k i : Nat} {D : Dk} {S : Sg} (h : Fails ((List.range n).map oneL) n m k i D S) (j : Nat) (hj : j < n) : redM S (j : Int) = (oneL j, 0) := by
  have hle := h.le.1
  unfold redM
  rw [if_neg (by omega), if_neg (by rw [h.gone]; omega), Int.toNat_natCast]
  have : (S.l.take n).getD j [] = oneL j := by rw [h.l]; simp [List.getD_eq_getElem?_getD, hj]
  rw [List.getD_eq_getElem?_getD, List.getElem?_take, if_pos hj, ← List.getD_eq_getElem?_getD] at this
  rw [this]

/-! ### SegmentSure -/
structure SuI (all : List (List UInt8)) (s i k : Nat) (D : Dk) (S : Sg) : Prop where
  sys : ∃ recs W, Sys D S recs W
  frm : S.frm = 0
  n : S.n = 120
  l : S.l = all
  used : S.used ≤ 4 * i
  sure : S.sure = s
  ep : S.epoch ≤ k
  gone : S.gone = 0
  small : ∀ b ∈ all, b.length ≤ 150
theorem SuI.le {all : List (List UInt8)} {s i k : Nat} {D : Dk} {S : Sg} (h : SuI all s i k D S) : s ≤ all.length := by
  obtain ⟨recs, W, hs⟩ := h.sys
  rw [← h.sure, hs.sure, ← h.l, hs.len]; omega
theorem SuI.waits {all : List (List UInt8)} {s i k : Nat} {D : Dk} {S : Sg} (h : SuI all s i k D S) : D.waits.length ≤ 120 := by
  obtain ⟨recs, W, hs⟩ := h.sys
  have := hs.waits_len
  rw [h.n] at this; exact this
theorem su_begin : openE (Dk.fresh 120) 0 120 = 0 ∧ SuI [] 0 0 1 (Dk.fresh 120) (openS (Dk.fresh 120) 0 120) := by
  obtain ⟨a, b, c⟩ := sys_fresh (m := 120) (frm := 0) (n := 120) (by omega) (by omega) (by omega)
  have b' : openS (Dk.fresh 120) 0 120 = ⟨0, 120, 1, [], 0, 0, 0, 0⟩ := b
  refine ⟨a, ⟨_, _, c⟩, ?_, ?_, ?_, ?_, ?_, ?_, ?_, by simp⟩ <;> rw [b']
  · exact Nat.zero_le _
  · exact Nat.le_refl _
theorem su_app {all : List (List UInt8)} {s i k : Nat} {D : Dk} {S : Sg} (h : SuI all s i k D S) (hi : i < 16) (b : List UInt8) (hb : b.length ≤ 150) :
    ∃ D' S', appM D S b = (D', S', all.length, 0) ∧ SuI (all ++ [b]) s (i + 1) k D' S' := by
  obtain ⟨recs, W, hs⟩ := h.sys
  have hn : needM b.length ≤ 4 := by unfold needM; omega
  have hu := h.used
  obtain ⟨a, c⟩ := sys_app hs (b := b) (by omega) (by rw [h.n]; omega)
  refine ⟨_, _, a.trans (by rw [h.l]), ⟨_, _, c⟩, h.frm, h.n, by simp only [h.l], by simp only; omega, h.sure, h.ep, h.gone, fun x hx => ?_⟩
  rcases List.mem_append.1 hx with hx | hx
  · exact h.small x hx
  · rw [List.mem_singleton.1 hx]; exact hb
theorem su_sync {all : List (List UInt8)} {s i k : Nat} {D : Dk} {S : Sg} (h : SuI all s i k D S) : ∃ D' S', synM D S = (D', S', 0) ∧ SuI all all.length i k D' S' := by
  obtain ⟨recs, W, hs⟩ := h.sys
  obtain ⟨a, c⟩ := sys_sync hs
  exact ⟨_, _, a, ⟨_, _, c⟩, h.frm, h.n, h.l, h.used, by simp only [h.l], h.ep, h.gone, h.small⟩
theorem nblk_le4 : ∀ (l : List (List UInt8)), (∀ b ∈ l, b.length ≤ 150) → nblk l ≤ 4 * l.length
  | [], _ => by simp [nblk]
  | b :: l, h => by
    have h1 := h b (List.mem_cons_self ..)
    have h2 := nblk_le4 l (fun x hx => h x (List.mem_cons_of_mem _ hx))
    have hn : needM b.length ≤ 4 := by unfold needM; omega
    simp only [nblk, List.length_cons]
    omega
theorem nblk_take_le : ∀ (l : List (List UInt8)) (j : Nat), nblk (l.take j) ≤ nblk l
  | [], j => by simp
  | b :: l, 0 => by simp [nblk]
  | b :: l, j + 1 => by
    have := nblk_take_le l j
    simp only [List.take_succ_cons, nblk]
    omega
theorem su_crash {all : List (List UInt8)} {s i k : Nat} {D : Dk} {S : Sg} (h : SuI all s i k D S) (hk : k ≤ 100) (pick : List UInt8) :
    ∃ j S2, s ≤ j ∧ j ≤ all.length ∧ openE (D.crash pick) 0 120 = 0 ∧ openS (D.crash pick) 0 120 = S2 ∧ SuI (all.take j) j i (k + 1) (D.crash pick) S2 := by
  obtain ⟨recs, W, hs⟩ := h.sys
  have hep := h.ep
  have hlen := hs.len
  have hsu := hs.sure
  rw [h.sure] at hsu
  obtain ⟨j, hj, d, e, f, g⟩ := sys_crash hs (by rw [h.n]; omega) (by omega) pick
  simp only [h.frm, h.n, h.l] at d e f g hlen
  have e' : openS (D.crash pick) 0 120 = _ := e
  have f' : Sys _ (openS (D.crash pick) 0 120) _ _ := f
  have g' : (openS (D.crash pick) 0 120).epoch ≤ _ := g
  have hu := h.used
  rw [hs.used, h.l] at hu
  have hu2 := nblk_take_le all (recs.length + j)
  refine ⟨recs.length + j, _, by omega, by omega, d, rfl, ⟨_, _, f'⟩, ?_, ?_, ?_, ?_, ?_, by omega, ?_, fun b hb => h.small b (List.mem_of_mem_take hb)⟩ <;> rw [e']
  simp only; omega
theorem su_read {all : List (List UInt8)} {s i k : Nat} {D : Dk} {S : Sg} (h : SuI all s i k D S) (j : Nat) (hj : j < all.length) : redM S (j : Int) = (all.getD j [], 0) := by
  unfold redM
  rw [h.l, if_neg (by omega), if_neg (by rw [h.gone]; omega), Int.toNat_natCast]
end Go.Proofs.Ytmgkaoenjnnlmaa
