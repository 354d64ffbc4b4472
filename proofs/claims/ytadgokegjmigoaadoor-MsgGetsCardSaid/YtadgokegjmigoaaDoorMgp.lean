/- Messages put and got: plain laws. -/
import Derived.Test.YtadgokegjmigoaaDoorMgm
namespace Go.Proofs.YtadgokegjmigoaaDoor
open Go.NB (Rr encU encB Cdc both)

theorem flds_fine (k : Nat) : (∀ f ∈ flds k, f < 10) ∧ (flds k).Nodup := by
  by_cases h : k < 19
  · have : ∀ k : Nat, k < 19 → (∀ f ∈ flds k, f < 10) ∧ (flds k).Nodup := by decide
    exact this k h
  · have : flds k = [] := by
      unfold flds
      rw [List.getD_eq_getElem?_getD, List.getElem?_eq_none (by simp [fldT]; omega)]
      rfl
    rw [this]; simp

/-- A field is the same. -/
def eqF (g : Nat) (a b : Mm) : Prop :=
  match g with
  | 0 => a.ballot = b.ballot
  | 1 => a.slot = b.slot
  | 2 => a.shard = b.shard
  | 3 => a.seg = b.seg
  | 4 => a.client = b.client
  | 5 => a.seq = b.seq
  | 6 => a.pos = b.pos
  | 7 => a.code = b.code
  | 8 => a.vec = b.vec
  | 9 => a.body = b.body
  | _ => True
theorem eqF_all {a b : Mm} (hk : a.kind = b.kind) (h : ∀ g < 10, eqF g a b) : a = b := by
  obtain ⟨a0, a1, a2, a3, a4, a5, a6, a7, a8, a9, a10⟩ := a
  obtain ⟨b0, b1, b2, b3, b4, b5, b6, b7, b8, b9, b10⟩ := b
  have h0 : a1 = b1 := h 0 (by decide)
  have h1 : a2 = b2 := h 1 (by decide)
  have h2 : a3 = b3 := h 2 (by decide)
  have h3 : a4 = b4 := h 3 (by decide)
  have h4 : a5 = b5 := h 4 (by decide)
  have h5 : a6 = b6 := h 5 (by decide)
  have h6 : a7 = b7 := h 6 (by decide)
  have h7 : a8 = b8 := h 7 (by decide)
  have h8 : a9 = b9 := h 8 (by decide)
  have h9 : a10 = b10 := h 9 (by decide)
  simp only at hk
  subst hk h0 h1 h2 h3 h4 h5 h6 h7 h8 h9
  rfl
theorem eqF_trans {g : Nat} {a b c : Mm} (h : eqF g a b) (k : eqF g b c) : eqF g a c := by
  unfold eqF at *; split at h <;> simp_all
theorem eqF_set (f : Nat) (m v : Mm) : eqF f (setF f m v) v := by
  unfold eqF setF; split <;> first | rfl | trivial
theorem eqF_other (f g : Nat) (h : f ≠ g) (m v : Mm) : eqF g (setF f m v) m := by
  unfold eqF
  split <;> first
    | (unfold setF; split <;> first | rfl | (exact absurd rfl h))
    | trivial
theorem setFs_in : ∀ (l : List Nat) (_ : l.Nodup) (m v : Mm) (g : Nat), (g ∈ l → eqF g (setFs l m v) v) ∧ (g ∉ l → eqF g (setFs l m v) m)
  | [], _, m, v, g => ⟨by simp, fun _ => by unfold eqF; split <;> first | rfl | trivial⟩
  | f :: l, hn, m, v, g => by
    rw [List.nodup_cons] at hn
    obtain ⟨h1, h2⟩ := setFs_in l hn.2 (setF f m v) v g
    have e : setFs (f :: l) m v = setFs l (setF f m v) v := rfl
    rw [e]
    refine ⟨fun hg => ?_, fun hg => ?_⟩
    · rcases List.mem_cons.1 hg with rfl | hg
      · exact eqF_trans (h2 hn.1) (eqF_set g m v)
      · exact h1 hg
    · exact eqF_trans (h2 (fun h => hg (by simp [h]))) (eqF_other f g (fun e => hg (by simp [e])) m v)
theorem eqF_none {m : Mm} {g : Nat} (h : hasF m g = false) (k : Int) : eqF g { mm0 with kind := k } m :=
  match g, h with
  | 0, h => by simp [hasF] at h; exact h.symm
  | 1, h => by simp [hasF] at h; exact h.symm
  | 2, h => by simp [hasF] at h; exact h.symm
  | 3, h => by simp [hasF] at h; exact h.symm
  | 4, h => by simp [hasF] at h; exact h.symm
  | 5, h => by simp [hasF] at h; exact h.symm
  | 6, h => by simp [hasF] at h; exact h.symm
  | 7, h => by simp [hasF] at h; exact h.symm
  | 8, h => by simp [hasF] at h; exact h.symm
  | 9, h => by simp [hasF] at h; exact h.symm
  | _ + 10, _ => trivial

theorem only_iff (m : Mm) : onlyF m = true ↔ ∀ f < 10, f ∉ flds m.kind.toNat → hasF m f = false := by
  unfold onlyF
  rw [List.all_eq_true]
  constructor
  · intro h f hf hn
    have := h f (List.mem_range.2 hf)
    simp only [Bool.or_eq_true, Bool.not_eq_true', List.contains_iff_mem] at this
    exact this.resolve_right hn
  · intro h f hf
    simp only [Bool.or_eq_true, Bool.not_eq_true', List.contains_iff_mem]
    by_cases hn : f ∈ flds m.kind.toNat
    · exact .inr hn
    · exact .inl (h f (List.mem_range.1 hf) hn)
theorem lim_iff (m : Mm) : (∀ g < 10, okFl g m) ↔ limB m = true ∧ WfM m := by
  unfold limB
  simp only [Bool.and_eq_true, decide_eq_true_eq]
  constructor
  · intro h
    have h0 : m.ballot < _ := h 0 (by decide)
    have h1 : m.slot < _ := h 1 (by decide)
    have h2 : 0 ≤ m.shard ∧ m.shard < 8 := h 2 (by decide)
    have h3 : 0 ≤ m.seg ∧ m.seg < 4 := h 3 (by decide)
    have h4 : m.client < _ := h 4 (by decide)
    have h5 : m.seq < _ := h 5 (by decide)
    have h6 : m.pos < _ := h 6 (by decide)
    have h7 : 0 ≤ m.code ∧ m.code < 256 := h 7 (by decide)
    have h8 : m.vec.length < 257 ∧ ∀ x ∈ m.vec, x < _ := h 8 (by decide)
    have h9 : m.body.length ≤ 32768 := h 9 (by decide)
    exact ⟨⟨⟨⟨⟨h2, h3⟩, h7⟩, by omega⟩, h9⟩, ⟨h0, h1, h4, h5, h6, h8.2⟩⟩
  · rintro ⟨⟨⟨⟨⟨h2, h3⟩, h7⟩, h8⟩, h9⟩, ⟨h0, h1, h4, h5, h6, h10⟩⟩ g hg
    have hc : g = 0 ∨ g = 1 ∨ g = 2 ∨ g = 3 ∨ g = 4 ∨ g = 5 ∨ g = 6 ∨ g = 7 ∨ g = 8 ∨ g = 9 := by omega
    rcases hc with rfl | rfl | rfl | rfl | rfl | rfl | rfl | rfl | rfl | rfl
    · exact h0
    · exact h1
    · exact h2
    · exact h3
    · exact h4
    · exact h5
    · exact h6
    · exact h7
    · exact ⟨by omega, h10⟩
    · exact h9
theorem known_iff {k : Int} : known k = true ↔ 1 ≤ k ∧ k ≤ 18 := by unfold known; simp


def bndF (f : Nat) : Nat := if f = 8 then 2313 else if f = 9 then 32777 else 9
theorem encs_len (l : List Nat) (hl : ∀ x ∈ l, x < 18446744073709551616) : (l.flatMap encU).length ≤ 9 * l.length := by
  induction l with
  | nil => simp
  | cons x l ih =>
    have h1 := Go.NB.encU_len (hl x (by simp))
    have h2 := ih (fun y hy => hl y (by simp [hy]))
    rw [List.flatMap_cons, List.length_append, List.length_cons]
    omega
theorem encFl_len (m : Mm) (h : ∀ g < 10, okFl g m) (f : Nat) : (encFl m f).length ≤ bndF f := by
  by_cases hf : f < 10
  · have hc : f = 0 ∨ f = 1 ∨ f = 2 ∨ f = 3 ∨ f = 4 ∨ f = 5 ∨ f = 6 ∨ f = 7 ∨ f = 8 ∨ f = 9 := by omega
    rcases hc with rfl | rfl | rfl | rfl | rfl | rfl | rfl | rfl | rfl | rfl
    · exact Go.NB.encU_len (h 0 (by decide))
    · exact Go.NB.encU_len (h 1 (by decide))
    · have h2 : 0 ≤ m.shard ∧ m.shard < 8 := h 2 (by decide)
      exact Go.NB.encU_len (by omega)
    · have h2 : 0 ≤ m.seg ∧ m.seg < 4 := h 3 (by decide)
      exact Go.NB.encU_len (by omega)
    · exact Go.NB.encU_len (h 4 (by decide))
    · exact Go.NB.encU_len (h 5 (by decide))
    · exact Go.NB.encU_len (h 6 (by decide))
    · have h2 : 0 ≤ m.code ∧ m.code < 256 := h 7 (by decide)
      exact Go.NB.encU_len (by omega)
    · have h8 : m.vec.length < 257 ∧ ∀ x ∈ m.vec, x < 18446744073709551616 := h 8 (by decide)
      have h1 := encs_len m.vec h8.2
      have h2 := Go.NB.encU_len (x := m.vec.length) (by omega)
      have e : (encFl m 8).length = (encU m.vec.length).length + (m.vec.flatMap encU).length := by simp [encFl]
      have e2 : bndF 8 = 2313 := rfl
      omega
    · have h9 : m.body.length ≤ 32768 := h 9 (by decide)
      have h2 := Go.NB.encU_len (x := m.body.length) (by omega)
      have e : (encFl m 9).length = (encU m.body.length).length + m.body.length := by simp [encFl, encB]
      have e2 : bndF 9 = 32777 := rfl
      omega
  · have : encFl m f = [] := by unfold encFl; split <;> first | (exfalso; omega) | rfl
    rw [this]; simp
theorem flat_len (m : Mm) (h : ∀ g < 10, okFl g m) : ∀ l : List Nat, (l.flatMap (encFl m)).length ≤ (l.map bndF).sum
  | [] => by simp
  | f :: l => by
    have h1 := encFl_len m h f
    have h2 := flat_len m h l
    rw [List.flatMap_cons, List.length_append, List.map_cons, List.sum_cons]
    omega
theorem flds_sum (k : Nat) : ((flds k).map bndF).sum ≤ 40000 := by
  by_cases h : k < 19
  · have : ∀ k : Nat, k < 19 → ((flds k).map bndF).sum ≤ 40000 := by decide
    exact this k h
  · have : flds k = [] := by
      unfold flds
      rw [List.getD_eq_getElem?_getD, List.getElem?_eq_none (by simp [fldT]; omega)]
      rfl
    rw [this]; simp
theorem body_len (m : Mm) (h : ∀ g < 10, okFl g m) : (bodyL m).length ≤ 40000 := Nat.le_trans (flat_len m h _) (flds_sum _)

/-- What may be is put. -/
theorem mcheck_parts {m : Mm} (h : mcheckB m = true) (hw : WfM m) : (1 ≤ m.kind ∧ m.kind ≤ 18) ∧ onlyF m = true ∧ (∀ g < 10, okFl g m) := by
  unfold mcheckB at h
  simp only [Bool.and_eq_true] at h
  exact ⟨known_iff.1 h.1, h.2.1, (lim_iff m).2 ⟨h.2.2, hw⟩⟩
theorem mput_ok {m : Mm} (h : mcheckB m = true) (hw : WfM m) : mputM m = (fbL (frOfM m), 0) := by
  obtain ⟨_, _, h3⟩ := mcheck_parts h hw
  unfold mputM
  rw [if_pos h, fput_is (by have := body_len m h3; simp only [frOfM]; omega)]
theorem mput_no {m : Mm} (h : mcheckB m ≠ true) : mputM m = ([], 1) := by unfold mputM; rw [if_neg h]

/-- What is put is got; with more behind it is none. -/
theorem mget_put {m : Mm} (h : mcheckB m = true) (hw : WfM m) (t : List UInt8) : mgetM (fbL (frOfM m) ++ t) = if t = [] then (m, 0) else (mm0, 11) := by
  obtain ⟨⟨k1, k2⟩, h2, h3⟩ := mcheck_parts h hw
  have hg := fget_put (frOfM m) (by have := body_len m h3; simp only [frOfM]; omega) t
  have hk : (UInt8.ofNat m.kind.toNat).toNat = m.kind.toNat := by rw [UInt8.toNat_ofNat']; omega
  have hk2 : ((m.kind.toNat : Nat) : Int) = m.kind := by omega
  unfold mgetM
  rw [hg]
  simp only [frOfM, hk, hk2]
  rw [if_neg (by simp)]
  by_cases ht : t = []
  · subst ht
    rw [if_neg (by simp; exact known_iff.2 ⟨k1, k2⟩)]
    have hp := readFs_put (flds m.kind.toNat) (flds_fine _).1 { mm0 with kind := m.kind } m (fun f hf => h3 f ((flds_fine _).1 f hf)) []
    rw [List.append_nil] at hp
    rw [bodyL, hp]
    simp only
    rw [if_neg (by rw [Rr.fin_ok]; simp), if_pos trivial]
    congr 1
    refine eqF_all ?_ (fun g hg => ?_)
    · have : ∀ (l : List Nat) (a v : Mm), (setFs l a v).kind = a.kind := by
        intro l
        induction l with
        | nil => intro a v; rfl
        | cons f l ih => intro a v; exact (ih _ v).trans (setF_kind f a v)
      rw [this]
    · obtain ⟨i1, i2⟩ := setFs_in (flds m.kind.toNat) (flds_fine _).2 { mm0 with kind := m.kind } m g
      by_cases hn : g ∈ flds m.kind.toNat
      · exact i1 hn
      · exact eqF_trans (i2 hn) (eqF_none ((only_iff m).1 h2 g hg hn) m.kind)
  · have hl : 0 < t.length := List.length_pos_iff.2 ht
    rw [if_pos (.inl (by rw [List.length_append]; omega)), if_neg ht]

/-- What is got is put. -/
theorem mget_inv {b : List UInt8} {m : Mm} (h : mgetM b = (m, 0)) : mcheckB m = true ∧ WfM m ∧ fbL (frOfM m) = b := by
  unfold mgetM at h
  by_cases h1 : (fgetM b).2.2 ≠ 0
  · rw [if_pos h1] at h
    exact absurd (congrArg Prod.snd h) h1
  rw [if_neg h1] at h
  by_cases h2 : (fgetM b).2.1 < b.length ∨ known ((fgetM b).1.1.toNat : Int) = false
  · rw [if_pos h2] at h; simp at h
  rw [if_neg h2] at h
  generalize hq : fgetM b = q at h h1 h2
  obtain ⟨⟨k, bd⟩, n, e⟩ := q
  simp only at h h1 h2
  have h1' : e = 0 := by omega
  subst h1'
  obtain ⟨hp, _, hn, hbd, hnl⟩ := fput_get hq
  have hnb : n = b.length := by omega
  have hkn : known (k.toNat : Int) = true := by
    cases hk : known (k.toNat : Int) with
    | true => rfl
    | false => exact absurd (.inr hk) h2
  by_cases h3 : (readFs (flds k.toNat) { mm0 with kind := (k.toNat : Int) } ⟨bd, 0⟩).1.fin ≠ 0
  · rw [if_pos h3] at h
    exact absurd (congrArg Prod.snd h) h3
  rw [if_neg h3] at h
  have hm : (readFs (flds k.toNat) { mm0 with kind := (k.toNat : Int) } ⟨bd, 0⟩).2 = m := congrArg Prod.fst h
  have he : (readFs (flds k.toNat) { mm0 with kind := (k.toNat : Int) } ⟨bd, 0⟩).1.e = 0 := by
    by_cases hx : (readFs (flds k.toNat) { mm0 with kind := (k.toNat : Int) } ⟨bd, 0⟩).1.e = 0
    · exact hx
    · exact absurd (by rw [Rr.fin_err hx]; exact hx) h3
  obtain ⟨i1, i2⟩ := readFs_inv _ (flds_fine k.toNat).1 (flds_fine k.toNat).2 _ bd he
  have i3 := fun g (hg : g ∉ flds k.toNat) => readFs_other g _ (flds_fine k.toNat).1 hg _ bd he
  have hkd := readFs_kind (flds k.toNat) { mm0 with kind := (k.toNat : Int) } ⟨bd, 0⟩
  have hb0 : (readFs (flds k.toNat) { mm0 with kind := (k.toNat : Int) } ⟨bd, 0⟩).1.b = [] := by
    rw [Rr.eta he, Rr.fin_ok] at h3
    by_cases hx : (readFs (flds k.toNat) { mm0 with kind := (k.toNat : Int) } ⟨bd, 0⟩).1.b = []
    · exact hx
    · exact absurd (by rw [if_neg hx]; decide) h3
  rw [hm] at i1 i2 i3 hkd
  rw [hb0, List.append_nil] at i2
  simp only at hkd
  have hok : ∀ g < 10, okFl g m := fun g hg => by
    by_cases hx : g ∈ flds k.toNat
    · exact i1 g hx
    · refine (i3 g hx).2.1.2 ?_
      have hc : g = 0 ∨ g = 1 ∨ g = 2 ∨ g = 3 ∨ g = 4 ∨ g = 5 ∨ g = 6 ∨ g = 7 ∨ g = 8 ∨ g = 9 := by omega
      rcases hc with rfl | rfl | rfl | rfl | rfl | rfl | rfl | rfl | rfl | rfl <;> simp [okFl, mm0]
  obtain ⟨j1, j2⟩ := (lim_iff m).1 hok
  have hkk : m.kind.toNat = k.toNat := by rw [hkd]; simp
  have hch : mcheckB m = true := by
    unfold mcheckB
    rw [j1, hkd, hkn, (only_iff m).2 (fun f hf hn => ?_)]
    · rfl
    · rw [hkk] at hn
      rw [(i3 f hn).2.2]
      have hc : f = 0 ∨ f = 1 ∨ f = 2 ∨ f = 3 ∨ f = 4 ∨ f = 5 ∨ f = 6 ∨ f = 7 ∨ f = 8 ∨ f = 9 := by omega
      rcases hc with rfl | rfl | rfl | rfl | rfl | rfl | rfl | rfl | rfl | rfl <;> rfl
  refine ⟨hch, j2, ?_⟩
  have hfr : frOfM m = (k, bd) := by
    unfold frOfM bodyL
    rw [hkk, ← i2]
    congr 1
    rw [UInt8.ofNat_toNat]
  rw [fput_is hbd, hnb, List.take_length] at hp
  rw [hfr]
  exact congrArg Prod.fst hp
theorem mget_cut {m : Mm} (h : mcheckB m = true) (hw : WfM m) (n : Nat) (hn : n < (fbL (frOfM m)).length) : mgetM ((fbL (frOfM m)).take n) = (mm0, 10) := by
  obtain ⟨_, _, h3⟩ := mcheck_parts h hw
  have hg := fget_put (frOfM m) (by have := body_len m h3; simp only [frOfM]; omega) []
  rw [List.append_nil] at hg
  have hc := fget_cut hg n hn
  unfold mgetM
  rw [if_pos (by rw [hc]; decide), hc]
theorem mput_inj {a b : Mm} (ha : mcheckB a = true) (wa : WfM a) (hb : mcheckB b = true) (wb : WfM b) (h : fbL (frOfM a) = fbL (frOfM b)) : a = b := by
  have h1 := mget_put ha wa []
  have h2 := mget_put hb wb []
  rw [h, h2] at h1
  simpa using h1.symm
end Go.Proofs.YtadgokegjmigoaaDoor
