/- Commands, in plain lists: may one be, what is put, what is got. No walk in sight. -/
import Derived.Test.YtnkmlopgfgdajaaCdc
namespace Go.Proofs.Ytnkmlopgfgdajaa
open Go.NB (Rr encU Cdc both cnt)

/-- The lengths of a shard's segments. -/
structure Rl where
  s : Int
  l : List Nat
/-- A command. -/
structure Cm where
  op : Int
  client : Nat
  seq : Nat
  shard : Int
  segs : Int
  pos : Nat
  rows : List Rl
def cm0 : Cm := ⟨0, 0, 0, 0, 0, 0, []⟩

def rowOk (p : Int) (r : Rl) : Bool := decide (p < r.s) && decide (r.s ≤ 7) && decide (r.l.length ≤ 4) && (r.l.getLast? != some 0)
def rowsOk : Int → List Rl → Bool
  | _, [] => true
  | p, r :: l => rowOk p r && rowsOk r.s l
def opOk (c : Cm) : Bool :=
  if c.op = 0 then decide (c.client = 0 ∧ c.seq = 0 ∧ c.shard = 0 ∧ c.segs = 0 ∧ c.pos = 0 ∧ c.rows.length = 0)
  else if c.op = 1 then decide (0 ≤ c.shard ∧ c.shard < 8 ∧ 0 < c.segs ∧ c.segs < 5 ∧ c.pos = 0 ∧ c.rows.length = 0)
  else if c.op = 2 then decide (0 ≤ c.shard ∧ c.shard < 8 ∧ c.segs = 0 ∧ c.pos = 0 ∧ (c.rows.length = 0 ∨ c.rows.length = 1 ∧ (c.rows.map (·.s)).getD 0 0 = c.shard))
  else if c.op = 3 then decide (c.shard = 0 ∧ c.segs = 0 ∧ c.rows.length = 0)
  else if c.op = 4 then decide (c.client = 0 ∧ c.seq = 0 ∧ c.shard = 0 ∧ c.segs = 0 ∧ c.pos = 0)
  else false
def checkB (c : Cm) : Bool := rowsOk (-1) c.rows && opOk c
def checkM (c : Cm) : Int := if checkB c = true then 0 else 1

def encR (r : Rl) : List UInt8 := encU r.s.toNat ++ (encU r.l.length ++ r.l.flatMap encU)
def encRs (l : List Rl) : List UInt8 := encU l.length ++ l.flatMap encR
def encF (k : Nat) (c : Cm) : List UInt8 :=
  match k with
  | 1 => encU c.client ++ (encU c.seq ++ (encU c.shard.toNat ++ encU c.segs.toNat))
  | 2 => encU c.client ++ (encU c.seq ++ (encU c.shard.toNat ++ encRs c.rows))
  | 3 => encU c.client ++ (encU c.seq ++ encU c.pos)
  | 4 => encRs c.rows
  | _ => []
def putL (c : Cm) : List UInt8 := UInt8.ofNat c.op.toNat :: encF c.op.toNat c
def putM (c : Cm) : List UInt8 × Int := if checkB c = true then (putL c, 0) else ([], 1)

/-- All its numbers are ones of 64 bits. -/
structure WfC (c : Cm) : Prop where
  client : c.client < 18446744073709551616
  seq : c.seq < 18446744073709551616
  pos : c.pos < 18446744073709551616
  rows : ∀ r ∈ c.rows, ∀ x ∈ r.l, x < 18446744073709551616

def rowP (r : Rr) : Rr × Rl := ((both (fun r => r.small 0 8) (fun _ => cnt 5 Rr.uint) r).1, ⟨((both (fun r => r.small 0 8) (fun _ => cnt 5 Rr.uint) r).2.1 : Int), (both (fun r => r.small 0 8) (fun _ => cnt 5 Rr.uint) r).2.2⟩)
def okR (r : Rl) : Prop := (0 ≤ r.s ∧ r.s < 8) ∧ r.l.length < 5 ∧ ∀ x ∈ r.l, x < 18446744073709551616
theorem cdc_row : Cdc rowP okR encR := by
  refine ((NB.cdc_small 0 8 (by omega)).both (Q := fun _ => cnt 5 Rr.uint) (okQ := fun _ l => l.length < 5 ∧ ∀ x ∈ l, x < 18446744073709551616) (encQ := fun _ l => encU l.length ++ l.flatMap encU) (fun _ r h => (NB.cdc_uint.cnt 5 (by omega)).stick r h) (fun _ _ => NB.cdc_uint.cnt 5 (by omega))).map (fun v => (⟨(v.1 : Int), v.2⟩ : Rl)) (fun _ => rfl) (fun v hv => ?_) (fun r hr => ⟨(r.s.toNat, r.l), ⟨by have := hr.1; omega, hr.2⟩, ?_⟩)
  · obtain ⟨h1, h2⟩ := hv
    exact ⟨⟨by simp only; omega, h2⟩, by simp [encR]⟩
  · obtain ⟨s, l⟩ := r
    have := hr.1
    simp only at this ⊢
    rw [show ((s.toNat : Nat) : Int) = s by omega]
def rowsP : Rr → Rr × List Rl := cnt 9 rowP
theorem cdc_rows : Cdc rowsP (fun l => l.length < 9 ∧ ∀ r ∈ l, okR r) encRs := cdc_row.cnt 9 (by omega)

def p1 : Rr → Rr × Nat × Nat × Nat × Nat := both Rr.uint fun _ => both Rr.uint fun _ => both (fun r => r.small 0 8) fun _ r => r.small 1 5
def p2 : Rr → Rr × Nat × Nat × Nat × List Rl := both Rr.uint fun _ => both Rr.uint fun _ => both (fun r => r.small 0 8) fun _ => rowsP
def p3 : Rr → Rr × Nat × Nat × Nat := both Rr.uint fun _ => both Rr.uint fun _ => Rr.uint
def fieldsP (k : Nat) (r : Rr) : Rr × Cm :=
  match k with
  | 1 => ((p1 r).1, ⟨1, (p1 r).2.1, (p1 r).2.2.1, ((p1 r).2.2.2.1 : Int), ((p1 r).2.2.2.2 : Int), 0, []⟩)
  | 2 => ((p2 r).1, ⟨2, (p2 r).2.1, (p2 r).2.2.1, ((p2 r).2.2.2.1 : Int), 0, 0, (p2 r).2.2.2.2⟩)
  | 3 => ((p3 r).1, ⟨3, (p3 r).2.1, (p3 r).2.2.1, 0, 0, (p3 r).2.2.2, []⟩)
  | 4 => ((rowsP r).1, ⟨4, 0, 0, 0, 0, 0, (rowsP r).2⟩)
  | _ => (r, cm0)
/-- Bytes have such fields just so. -/
def okF (k : Nat) (c : Cm) : Prop :=
  match k with
  | 1 => c.op = 1 ∧ c.client < 18446744073709551616 ∧ c.seq < 18446744073709551616 ∧ (0 ≤ c.shard ∧ c.shard < 8) ∧ (1 ≤ c.segs ∧ c.segs < 5) ∧ c.pos = 0 ∧ c.rows = []
  | 2 => c.op = 2 ∧ c.client < 18446744073709551616 ∧ c.seq < 18446744073709551616 ∧ (0 ≤ c.shard ∧ c.shard < 8) ∧ c.segs = 0 ∧ c.pos = 0 ∧ c.rows.length < 9 ∧ ∀ r ∈ c.rows, okR r
  | 3 => c.op = 3 ∧ c.client < 18446744073709551616 ∧ c.seq < 18446744073709551616 ∧ c.pos < 18446744073709551616 ∧ c.shard = 0 ∧ c.segs = 0 ∧ c.rows = []
  | 4 => c.op = 4 ∧ c.client = 0 ∧ c.seq = 0 ∧ c.shard = 0 ∧ c.segs = 0 ∧ c.pos = 0 ∧ c.rows.length < 9 ∧ ∀ r ∈ c.rows, okR r
  | _ => c = cm0

theorem cdc_p1 : Cdc p1 (fun v => v.1 < 18446744073709551616 ∧ v.2.1 < 18446744073709551616 ∧ (0 ≤ v.2.2.1 ∧ v.2.2.1 < 8) ∧ (1 ≤ v.2.2.2 ∧ v.2.2.2 < 5)) (fun v => encU v.1 ++ (encU v.2.1 ++ (encU v.2.2.1 ++ encU v.2.2.2))) := by
  have h1 := (NB.cdc_small 0 8 (by omega)).both (Q := fun _ r => r.small 1 5) (fun _ r h => (NB.cdc_small 1 5 (by omega)).stick r h) (fun _ _ => NB.cdc_small 1 5 (by omega))
  have h2 := NB.cdc_uint.both (Q := fun _ => both (fun r => r.small 0 8) fun _ r => r.small 1 5) (fun _ r h => h1.stick r h) (fun _ _ => h1)
  exact NB.cdc_uint.both (Q := fun _ => both Rr.uint fun _ => both (fun r => r.small 0 8) fun _ r => r.small 1 5) (fun _ r h => h2.stick r h) (fun _ _ => h2)
theorem cdc_p2 : Cdc p2 (fun v => v.1 < 18446744073709551616 ∧ v.2.1 < 18446744073709551616 ∧ (0 ≤ v.2.2.1 ∧ v.2.2.1 < 8) ∧ (v.2.2.2.length < 9 ∧ ∀ r ∈ v.2.2.2, okR r)) (fun v => encU v.1 ++ (encU v.2.1 ++ (encU v.2.2.1 ++ encRs v.2.2.2))) := by
  have h1 := (NB.cdc_small 0 8 (by omega)).both (Q := fun _ => rowsP) (fun _ r h => cdc_rows.stick r h) (fun _ _ => cdc_rows)
  have h2 := NB.cdc_uint.both (Q := fun _ => both (fun r => r.small 0 8) fun _ => rowsP) (fun _ r h => h1.stick r h) (fun _ _ => h1)
  exact NB.cdc_uint.both (Q := fun _ => both Rr.uint fun _ => both (fun r => r.small 0 8) fun _ => rowsP) (fun _ r h => h2.stick r h) (fun _ _ => h2)
theorem cdc_p3 : Cdc p3 (fun v => v.1 < 18446744073709551616 ∧ v.2.1 < 18446744073709551616 ∧ v.2.2 < 18446744073709551616) (fun v => encU v.1 ++ (encU v.2.1 ++ encU v.2.2)) := by
  have h2 := NB.cdc_uint.both (Q := fun _ => Rr.uint) (fun _ r h => NB.cdc_uint.stick r h) (fun _ _ => NB.cdc_uint)
  exact NB.cdc_uint.both (Q := fun _ => both Rr.uint fun _ => Rr.uint) (fun _ r h => h2.stick r h) (fun _ _ => h2)

theorem cdc_fields (k : Nat) (hk : k ≤ 4) : Cdc (fieldsP k) (okF k) (encF k) := by
  have h5 : k = 0 ∨ k = 1 ∨ k = 2 ∨ k = 3 ∨ k = 4 := by omega
  rcases h5 with rfl | rfl | rfl | rfl | rfl
  · exact NB.cdc_pure cm0
  · refine cdc_p1.map (fun v => ⟨1, v.1, v.2.1, (v.2.2.1 : Int), (v.2.2.2 : Int), 0, []⟩) (fun _ => rfl) (fun v hv => ?_) (fun c hc => ⟨(c.client, c.seq, c.shard.toNat, c.segs.toNat), ?_, ?_⟩)
    · obtain ⟨h1, h2, h3, h4⟩ := hv
      exact ⟨⟨rfl, h1, h2, by simp only; omega, by simp only; omega, rfl, rfl⟩, by simp [encF]⟩
    · obtain ⟨_, h1, h2, h3, h4, _⟩ := hc
      exact ⟨h1, h2, by simp only; omega, by simp only; omega⟩
    · obtain ⟨h0, _, _, h3, h4, h5, h6⟩ := hc
      obtain ⟨op, cl, sq, sh, sg, ps, rs⟩ := c
      simp only at h0 h3 h4 h5 h6 ⊢
      rw [h0, h5, h6, show ((sh.toNat : Nat) : Int) = sh by omega, show ((sg.toNat : Nat) : Int) = sg by omega]
  · refine cdc_p2.map (fun v => ⟨2, v.1, v.2.1, (v.2.2.1 : Int), 0, 0, v.2.2.2⟩) (fun _ => rfl) (fun v hv => ?_) (fun c hc => ⟨(c.client, c.seq, c.shard.toNat, c.rows), ?_, ?_⟩)
    · obtain ⟨h1, h2, h3, h4, h5⟩ := hv
      exact ⟨⟨rfl, h1, h2, by simp only; omega, rfl, rfl, h4, h5⟩, by simp [encF]⟩
    · obtain ⟨_, h1, h2, h3, _, _, h4, h5⟩ := hc
      exact ⟨h1, h2, by simp only; omega, h4, h5⟩
    · obtain ⟨h0, _, _, h3, h4, h5, _⟩ := hc
      obtain ⟨op, cl, sq, sh, sg, ps, rs⟩ := c
      simp only at h0 h3 h4 h5 ⊢
      rw [h0, h4, h5, show ((sh.toNat : Nat) : Int) = sh by omega]
  · refine cdc_p3.map (fun v => ⟨3, v.1, v.2.1, 0, 0, v.2.2, []⟩) (fun _ => rfl) (fun v hv => ?_) (fun c hc => ⟨(c.client, c.seq, c.pos), ?_, ?_⟩)
    · obtain ⟨h1, h2, h3⟩ := hv
      exact ⟨⟨rfl, h1, h2, h3, rfl, rfl, rfl⟩, rfl⟩
    · obtain ⟨_, h1, h2, h3, _⟩ := hc
      exact ⟨h1, h2, h3⟩
    · obtain ⟨h0, _, _, _, h3, h4, h5⟩ := hc
      obtain ⟨op, cl, sq, sh, sg, ps, rs⟩ := c
      simp only at h0 h3 h4 h5 ⊢
      rw [h0, h3, h4, h5]
  · refine cdc_rows.map (fun v => ⟨4, 0, 0, 0, 0, 0, v⟩) (fun _ => rfl) (fun v hv => ?_) (fun c hc => ⟨c.rows, ?_, ?_⟩)
    · exact ⟨⟨rfl, rfl, rfl, rfl, rfl, rfl, hv.1, hv.2⟩, rfl⟩
    · obtain ⟨_, _, _, _, _, _, h1, h2⟩ := hc
      exact ⟨h1, h2⟩
    · obtain ⟨h0, h1, h2, h3, h4, h5, _⟩ := hc
      obtain ⟨op, cl, sq, sh, sg, ps, rs⟩ := c
      simp only at h0 h1 h2 h3 h4 h5 ⊢
      rw [h0, h1, h2, h3, h4, h5]

def getM (b : List UInt8) : Cm × Int :=
  match b with
  | [] => (cm0, 10)
  | y :: b =>
    if 4 < y.toNat then (cm0, 11)
    else if (fieldsP y.toNat ⟨b, 0⟩).1.e ≠ 0 then (cm0, (fieldsP y.toNat ⟨b, 0⟩).1.e)
    else if (fieldsP y.toNat ⟨b, 0⟩).1.b ≠ [] then (cm0, 12)
    else if checkB (fieldsP y.toNat ⟨b, 0⟩).2 = true then ((fieldsP y.toNat ⟨b, 0⟩).2, 0)
    else (cm0, 11)

theorem rowsOk_all : ∀ (p : Int) (l : List Rl), -1 ≤ p → p ≤ 7 → rowsOk p l = true → (l.length : Int) ≤ 7 - p ∧ ∀ r ∈ l, (0 ≤ r.s ∧ r.s < 8) ∧ r.l.length < 5
  | p, [], _, h7, _ => ⟨by simp only [List.length_nil]; omega, by simp⟩
  | p, r :: l, h0, h7, h => by
    simp only [rowsOk, rowOk, Bool.and_eq_true, decide_eq_true_eq] at h
    obtain ⟨⟨⟨⟨h1, h2⟩, h3⟩, _⟩, h4⟩ := h
    obtain ⟨h5, h6⟩ := rowsOk_all r.s l (by omega) h2 h4
    refine ⟨by simp only [List.length_cons]; omega, fun x hx => ?_⟩
    rcases List.mem_cons.1 hx with rfl | hx
    · exact ⟨by omega, by omega⟩
    · exact h6 x hx

/-- What may be has fields that are read so. -/
theorem okF_of {c : Cm} (h : checkB c = true) (hw : WfC c) : c.op.toNat ≤ 4 ∧ (c.op.toNat : Int) = c.op ∧ okF c.op.toNat c := by
  simp only [checkB, Bool.and_eq_true] at h
  obtain ⟨h1, h2⟩ := h
  obtain ⟨h3, h4⟩ := rowsOk_all (-1) c.rows (by omega) (by omega) h1
  have hr : c.rows.length < 9 ∧ ∀ r ∈ c.rows, okR r := ⟨by omega, fun r hr => ⟨(h4 r hr).1, (h4 r hr).2, hw.rows r hr⟩⟩
  obtain ⟨w1, w2, w3, _⟩ := hw
  unfold opOk at h2
  by_cases e0 : c.op = 0
  · rw [if_pos e0] at h2
    simp only [decide_eq_true_eq] at h2
    obtain ⟨a1, a2, a3, a4, a5, a6⟩ := h2
    have a7 := List.eq_nil_of_length_eq_zero a6
    clear a6
    obtain ⟨op, cl, sq, sh, sg, ps, rs⟩ := c
    simp only at e0 a1 a2 a3 a4 a5 a7
    subst e0; subst a1; subst a2; subst a3; subst a4; subst a5; subst a7
    exact ⟨by simp, rfl, rfl⟩
  rw [if_neg e0] at h2
  by_cases e1 : c.op = 1
  · rw [if_pos e1] at h2
    simp only [decide_eq_true_eq] at h2
    obtain ⟨a1, a2, a3, a4, a5, a6⟩ := h2
    refine ⟨by omega, by omega, ?_⟩
    rw [e1]
    exact ⟨e1, w1, w2, ⟨a1, a2⟩, ⟨by omega, a4⟩, a5, List.eq_nil_of_length_eq_zero a6⟩
  rw [if_neg e1] at h2
  by_cases e2 : c.op = 2
  · rw [if_pos e2] at h2
    simp only [decide_eq_true_eq] at h2
    obtain ⟨a1, a2, a3, a4, _⟩ := h2
    refine ⟨by omega, by omega, ?_⟩
    rw [e2]
    exact ⟨e2, w1, w2, ⟨a1, a2⟩, a3, a4, hr⟩
  rw [if_neg e2] at h2
  by_cases e3 : c.op = 3
  · rw [if_pos e3] at h2
    simp only [decide_eq_true_eq] at h2
    obtain ⟨a1, a2, a3⟩ := h2
    refine ⟨by omega, by omega, ?_⟩
    rw [e3]
    exact ⟨e3, w1, w2, w3, a1, a2, List.eq_nil_of_length_eq_zero a3⟩
  rw [if_neg e3] at h2
  by_cases e4 : c.op = 4
  · rw [if_pos e4] at h2
    simp only [decide_eq_true_eq] at h2
    obtain ⟨a1, a2, a3, a4, a5⟩ := h2
    refine ⟨by omega, by omega, ?_⟩
    rw [e4]
    exact ⟨e4, a1, a2, a3, a4, a5, hr⟩
  rw [if_neg e4] at h2
  cases h2

/-- And the other way round: what is read so is of the op, and its numbers are ones. -/
theorem of_okF {k : Nat} (hk : k ≤ 4) {c : Cm} (h : okF k c) : c.op = (k : Int) ∧ WfC c := by
  have h5 : k = 0 ∨ k = 1 ∨ k = 2 ∨ k = 3 ∨ k = 4 := by omega
  rcases h5 with rfl | rfl | rfl | rfl | rfl
  · have : c = cm0 := h
    subst this
    exact ⟨rfl, ⟨by simp [cm0], by simp [cm0], by simp [cm0], by simp [cm0]⟩⟩
  · obtain ⟨h0, h1, h2, _, _, h5, h6⟩ := h
    exact ⟨h0, ⟨h1, h2, by omega, by rw [h6]; simp⟩⟩
  · obtain ⟨h0, h1, h2, _, _, h5, _, h6⟩ := h
    exact ⟨h0, ⟨h1, h2, by omega, fun r hr => (h6 r hr).2.2⟩⟩
  · obtain ⟨h0, h1, h2, h3, _, _, h6⟩ := h
    exact ⟨h0, ⟨h1, h2, h3, by rw [h6]; simp⟩⟩
  · obtain ⟨h0, h1, h2, _, _, h5, _, h6⟩ := h
    exact ⟨h0, ⟨by omega, by omega, by omega, fun r hr => (h6 r hr).2.2⟩⟩

/-- What is put is got; with more behind it is none. -/
theorem getM_put {c : Cm} (h : checkB c = true) (hw : WfC c) (t : List UInt8) : getM (putL c ++ t) = if t = [] then (c, 0) else (cm0, 12) := by
  obtain ⟨h1, h2, h3⟩ := okF_of h hw
  have hy : (UInt8.ofNat c.op.toNat).toNat = c.op.toNat := by rw [UInt8.toNat_ofNat']; omega
  have hp := (cdc_fields _ h1).put c h3 t
  simp only [putL, List.cons_append, getM, hy, hp]
  rw [if_neg (by omega), if_neg (by simp)]
  by_cases ht : t = []
  · rw [if_neg (by simpa using ht), if_pos h, if_pos ht]
  · rw [if_pos ht, if_neg ht]
/-- What is got is put. -/
theorem getM_inv {b : List UInt8} {c : Cm} (h : getM b = (c, 0)) : checkB c = true ∧ WfC c ∧ b = putL c := by
  cases b with
  | nil => simp [getM] at h
  | cons y b =>
    simp only [getM] at h
    by_cases h4 : 4 < y.toNat
    · rw [if_pos h4] at h; simp at h
    rw [if_neg h4] at h
    by_cases he : (fieldsP y.toNat ⟨b, 0⟩).1.e ≠ 0
    · rw [if_pos he] at h
      exact absurd (congrArg Prod.snd h) he
    rw [if_neg he] at h
    by_cases hb : (fieldsP y.toNat ⟨b, 0⟩).1.b ≠ []
    · rw [if_pos hb] at h; simp at h
    rw [if_neg hb] at h
    by_cases hc : checkB (fieldsP y.toNat ⟨b, 0⟩).2 = true
    · rw [if_pos hc] at h
      obtain ⟨h1, h2⟩ := (cdc_fields y.toNat (by omega)).inv b (by omega)
      have hb' : (fieldsP y.toNat ⟨b, 0⟩).1.b = [] := by
        cases hq : (fieldsP y.toNat ⟨b, 0⟩).1.b with
        | nil => rfl
        | cons _ _ => exact absurd (by rw [hq]; simp) hb
      rw [hb', List.append_nil] at h2
      have hc2 : (fieldsP y.toNat ⟨b, 0⟩).2 = c := congrArg Prod.fst h
      rw [hc2] at hc h1 h2
      obtain ⟨h5, h6⟩ := of_okF (by omega) h1
      refine ⟨hc, h6, ?_⟩
      rw [putL, h5, Int.toNat_natCast, ← h2]
      simp
    · rw [if_neg hc] at h; simp at h
/-- Cut anywhere it is none. -/
theorem getM_cut {c : Cm} (h : checkB c = true) (hw : WfC c) (m : Nat) (hm : m < (putL c).length) : getM ((putL c).take m) = (cm0, 10) := by
  obtain ⟨h1, h2, h3⟩ := okF_of h hw
  have hy : (UInt8.ofNat c.op.toNat).toNat = c.op.toNat := by rw [UInt8.toNat_ofNat']; omega
  cases m with
  | zero => rfl
  | succ m =>
    have hp := (cdc_fields _ h1).cut c h3 m (by simpa [putL] using hm)
    simp only [putL, List.take_succ_cons, getM, hy]
    rw [if_neg (by omega), if_pos (by rw [hp]; decide), hp]
theorem getM_op (y : UInt8) (b : List UInt8) (h : 4 < y.toNat) : getM (y :: b) = (cm0, 11) := by simp only [getM]; rw [if_pos h]
theorem getM_err {b : List UInt8} (h : (getM b).2 ≠ 0) : (getM b).1 = cm0 := by
  cases b with
  | nil => rfl
  | cons y b =>
    simp only [getM] at h ⊢
    by_cases h4 : 4 < y.toNat
    · rw [if_pos h4]
    rw [if_neg h4] at h ⊢
    by_cases he : (fieldsP y.toNat ⟨b, 0⟩).1.e ≠ 0
    · rw [if_pos he]
    rw [if_neg he] at h ⊢
    by_cases hb : (fieldsP y.toNat ⟨b, 0⟩).1.b ≠ []
    · rw [if_pos hb]
    rw [if_neg hb] at h ⊢
    by_cases hc : checkB (fieldsP y.toNat ⟨b, 0⟩).2 = true
    · rw [if_pos hc] at h; exact absurd rfl h
    · rw [if_neg hc]
theorem putL_inj {a b : Cm} (ha : checkB a = true) (hb : checkB b = true) (wa : WfC a) (wb : WfC b) (h : putL a = putL b) : a = b := by
  have h1 := getM_put ha wa []
  have h2 := getM_put hb wb []
  rw [h] at h1
  rw [h1] at h2
  simpa using h2
end Go.Proofs.Ytnkmlopgfgdajaa
