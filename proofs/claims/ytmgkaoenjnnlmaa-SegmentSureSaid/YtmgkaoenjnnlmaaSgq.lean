/- A segment whose disk loses what waits, or stops: plain laws. -/
import Derived.Test.YtmgkaoenjnnlmaaSgs
namespace Go.Proofs.Ytmgkaoenjnnlmaa
open Go.NB (Dk val)
open Go.NB.Crc

/-- Of what waits nothing is there behind such a crash. -/
theorem sys_lost {D : Dk} {S : Sg} {recs : List Rec} {W : List (List UInt8)} (h : Sys D S recs W) (h1 : 1 ≤ S.n) (hE : S.epoch + 1 < 256) :
    openE (D.crash []) (S.frm : Int) (S.n : Int) = 0 ∧ openS (D.crash []) (S.frm : Int) (S.n : Int) = ⟨S.frm, S.n, topM (regL D.l S.frm S.n) + 1, recs.map (·.1), nblk (recs.map (·.1)), recs.length, 0, 0⟩ ∧
      Sys (D.crash []) (openS (D.crash []) (S.frm : Int) (S.n : Int)) recs [] := by
  have hl : (D.crash []).l = D.l := by
    unfold Dk.crash
    cases D.waits <;> rfl
  obtain ⟨a, b, c, _⟩ := sys_open (D := D.crash []) (frm := S.frm) (n := S.n) (E := S.epoch) (recs := recs) ⟨rfl, rfl⟩ rfl (by rw [hl]; exact h.reg) h.n h1 (by rw [hl]; exact h.inv.toInvW) hE
  rw [hl] at b
  exact ⟨a, b, c⟩

/-- A disk that stops behind k calls more, and one block's records: behind i of them. -/
structure Fails (L : List (List UInt8)) (n m k i : Nat) (D : Dk) (S : Sg) : Prop where
  len : D.l.length = m
  l : S.l.take n = L
  le : n ≤ S.l.length ∧ S.l.length ≤ n + i
  used : S.used = S.l.length
  sure : S.sure = n
  gone : S.gone = 0
  frm : S.frm = 0
  n : S.n = m
  w : D.waits.length ≤ i
  ok : i ≤ k → D.down = false ∧ D.left = (k : Int) - i ∧ S.e = 0
  bad : k < i → S.e = 20
theorem need_one (b : List UInt8) (h : b.length ≤ 45) : needM b.length = 1 := by unfold needM; omega
theorem app_left {D : Dk} {S : Sg} {b : List UInt8} (hb : b.length ≤ 45) (he : S.e = 0) (hf : S.used + 1 ≤ S.n) (hd : D.down = false) (hr : S.frm + S.n ≤ D.l.length) (hl : 0 < D.left) :
    appM D S b = ({ D with waits := D.waits ++ [(S.frm + S.used, blkL S.epoch (S.l.length + 1) 0 1 (piece b 0))], left := max (D.left - 1) (-1) }, { S with l := S.l ++ [b], used := S.used + 1 }, S.l.length, 0) := by
  have h0 : D.at_ ((S.frm + S.used + 0 : Nat) : Int) = 0 := by
    unfold Dk.at_
    rw [hd, if_neg (by simp), if_neg (by omega)]
  have hw : D.write ((S.frm + S.used + 0 : Nat) : Int) (blkL S.epoch (S.l.length + 1) 0 1 (piece b 0)) = ({ D with waits := D.waits ++ [(S.frm + S.used, blkL S.epoch (S.l.length + 1) 0 1 (piece b 0))], left := max (D.left - 1) (-1) }, 0) := by
    unfold Dk.write
    rw [h0, if_neg (by simp), if_neg (by rw [blkL_len _ _ _ _ _ (piece_len _ _)]; simp), if_neg (by omega), Int.toNat_natCast]
    rfl
  have hn := need_one b hb
  unfold appM
  rw [if_neg (by omega), if_neg (by rw [he]; simp), hn, if_neg (by omega)]
  simp only [wrM, hw]
  rw [if_neg (by simp), if_neg (by simp)]
theorem app_stop {D : Dk} {S : Sg} {b : List UInt8} (hb : b.length ≤ 45) (he : S.e = 0) (hf : S.used + 1 ≤ S.n) (hd : D.down = false) (hr : S.frm + S.n ≤ D.l.length) (hl : D.left = 0) :
    appM D S b = ({ D with down := true }, { S with e := 20 }, 0, 20) := by
  have h0 : D.at_ ((S.frm + S.used + 0 : Nat) : Int) = 0 := by
    unfold Dk.at_
    rw [hd, if_neg (by simp), if_neg (by omega)]
  have hw : D.write ((S.frm + S.used + 0 : Nat) : Int) (blkL S.epoch (S.l.length + 1) 0 1 (piece b 0)) = ({ D with down := true }, 20) := by
    unfold Dk.write
    rw [h0, if_neg (by simp), if_neg (by rw [blkL_len _ _ _ _ _ (piece_len _ _)]; simp), if_pos hl]
  have hn := need_one b hb
  unfold appM
  rw [if_neg (by omega), if_neg (by rw [he]; simp), hn, if_neg (by omega)]
  simp only [wrM, hw]
  rw [if_pos (by simp), if_pos (by simp)]
theorem app_err {D : Dk} {S : Sg} {b : List UInt8} (hb : b.length ≤ 4096) (he : S.e ≠ 0) : appM D S b = (D, S, 0, S.e) := by
  unfold appM
  rw [if_neg (by omega), if_pos he]
theorem fails_begin {D : Dk} {S : Sg} {recs : List Rec} (h : Sys D S recs []) (hg : S.gone = 0) (hf : S.frm = 0) (hm : D.l.length = S.n) (hu : S.used = S.l.length) (k : Nat) :
    Fails S.l S.l.length S.n k 0 (D.stop k) S where
  len := hm
  l := List.take_length
  le := ⟨Nat.le_refl _, Nat.le_refl _⟩
  used := hu
  sure := by rw [h.sure, h.len]; rfl
  gone := hg
  frm := hf
  n := rfl
  w := by
    have := h.waits
    simp only [blksOf, ws] at this
    simp only [Dk.stop, this, List.length_nil]
    exact Nat.le_refl _
  ok := fun _ => ⟨h.runs.down, by simp only [Dk.stop]; omega, h.e⟩
  bad := fun h => by omega
/-- One more record. -/
theorem fails_step {L : List (List UInt8)} {n m k i : Nat} {D : Dk} {S : Sg} (h : Fails L n m k i D S) (hm : n + i + 1 ≤ m) {b : List UInt8} (hb : b.length ≤ 45) :
    (appM D S b).2.2.2 = (if k ≤ i then 20 else 0) ∧ Fails L n m k (i + 1) (appM D S b).1 (appM D S b).2.1 := by
  have hle := h.le
  by_cases hk : i ≤ k
  · obtain ⟨h1, h2, h3⟩ := h.ok hk
    by_cases hz : i = k
    · have e := app_stop (D := D) (S := S) hb h3 (by rw [h.used, h.n]; omega) h1 (by rw [h.frm, h.n, h.len]; omega) (by omega)
      rw [e, if_pos (by omega)]
      exact ⟨rfl, { len := h.len, l := h.l, le := ⟨hle.1, by simp only; omega⟩, used := h.used, sure := h.sure, gone := h.gone, frm := h.frm, n := h.n, w := by have := h.w; simp only; omega, ok := fun hh => by omega, bad := fun _ => rfl }⟩
    · have e := app_left (D := D) (S := S) hb h3 (by rw [h.used, h.n]; omega) h1 (by rw [h.frm, h.n, h.len]; omega) (by omega)
      rw [e, if_neg (by omega)]
      refine ⟨rfl, { len := h.len, l := ?_, le := ⟨by simp only [List.length_append, List.length_singleton]; omega, by simp only [List.length_append, List.length_singleton]; omega⟩, used := by simp only [List.length_append, List.length_singleton, h.used], sure := h.sure, gone := h.gone, frm := h.frm, n := h.n, w := by have := h.w; simp only [List.length_append, List.length_singleton]; omega, ok := fun _ => ⟨h1, by simp only; omega, h3⟩, bad := fun hh => by omega }⟩
      simp only
      rw [List.take_append_of_le_length hle.1]
      exact h.l
  · have h3 := h.bad (by omega)
    have e := app_err (D := D) (S := S) (b := b) (by omega) (by rw [h3]; decide)
    rw [e, if_pos (by omega)]
    exact ⟨h3, { len := h.len, l := h.l, le := ⟨hle.1, by simp only; omega⟩, used := h.used, sure := h.sure, gone := h.gone, frm := h.frm, n := h.n, w := by have := h.w; simp only; omega, ok := fun hh => by omega, bad := fun _ => h3 }⟩
end Go.Proofs.Ytmgkaoenjnnlmaa
