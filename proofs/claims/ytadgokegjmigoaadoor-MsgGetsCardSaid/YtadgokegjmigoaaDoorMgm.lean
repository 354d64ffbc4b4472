/- Messages, in plain lists: may one be, what is put, what is got. No walk in sight. -/
import Derived.Test.YtadgokegjmigoaaDoorCdc
import Derived.Test.YtadgokegjmigoaaDoorFrp
namespace Go.Proofs.YtadgokegjmigoaaDoor
open Go.NB (Rr encU encB Cdc both)

/-- A message. -/
structure Mm where
  kind : Int
  ballot : Nat
  slot : Nat
  shard : Int
  seg : Int
  client : Nat
  seq : Nat
  pos : Nat
  code : Int
  vec : List Nat
  body : List UInt8
def mm0 : Mm := ⟨0, 0, 0, 0, 0, 0, 0, 0, 0, [], []⟩

/-- The fields of a kind, by number: ballot 0, slot 1, shard 2, seg 3, client 4, seq 5, pos 6, code 7, vec 8, body 9. -/
def fldT : List (List Nat) := [[], [2,3,4,5,9], [2,3,4,5,6,7], [2,3,4,5,6,9], [2,3,6], [2,3,6], [2,3,8], [0,1], [0,1,9], [0,1,9], [0,1], [0], [1,9], [1], [4,5,6], [2,3,4,5,6,7,9], [2,3,4,5,6,7], [4,5,6,7], [0,1]]
def flds (k : Nat) : List Nat := fldT.getD k []
def known (k : Int) : Bool := decide (1 ≤ k) && decide (k ≤ 18)

/-- Does a message have a field? -/
def hasF (m : Mm) (f : Nat) : Bool :=
  match f with
  | 0 => decide (m.ballot ≠ 0)
  | 1 => decide (m.slot ≠ 0)
  | 2 => decide (m.shard ≠ 0)
  | 3 => decide (m.seg ≠ 0)
  | 4 => decide (m.client ≠ 0)
  | 5 => decide (m.seq ≠ 0)
  | 6 => decide (m.pos ≠ 0)
  | 7 => decide (m.code ≠ 0)
  | 8 => decide (m.vec ≠ [])
  | 9 => decide (m.body ≠ [])
  | _ => false
def onlyF (m : Mm) : Bool := (List.range 10).all fun f => !hasF m f || (flds m.kind.toNat).contains f
def limB (m : Mm) : Bool := decide (0 ≤ m.shard ∧ m.shard < 8) && decide (0 ≤ m.seg ∧ m.seg < 4) && decide (0 ≤ m.code ∧ m.code < 256) && decide (m.vec.length ≤ 256) && decide (m.body.length ≤ 32768)
def mcheckB (m : Mm) : Bool := known m.kind && (onlyF m && limB m)
def mcheckM (m : Mm) : Int := if mcheckB m = true then 0 else 1

/-- A field's bytes. -/
def encFl (m : Mm) (f : Nat) : List UInt8 :=
  match f with
  | 0 => encU m.ballot
  | 1 => encU m.slot
  | 2 => encU m.shard.toNat
  | 3 => encU m.seg.toNat
  | 4 => encU m.client
  | 5 => encU m.seq
  | 6 => encU m.pos
  | 7 => encU m.code.toNat
  | 8 => encU m.vec.length ++ m.vec.flatMap encU
  | 9 => encB m.body
  | _ => []
def bodyL (m : Mm) : List UInt8 := (flds m.kind.toNat).flatMap (encFl m)
def frOfM (m : Mm) : Fr := (UInt8.ofNat m.kind.toNat, bodyL m)
def mputM (m : Mm) : List UInt8 × Int := if mcheckB m = true then fputM (frOfM m) else ([], 1)

structure WfM (m : Mm) : Prop where
  ballot : m.ballot < 18446744073709551616
  slot : m.slot < 18446744073709551616
  client : m.client < 18446744073709551616
  seq : m.seq < 18446744073709551616
  pos : m.pos < 18446744073709551616
  vec : ∀ x ∈ m.vec, x < 18446744073709551616

/-- A number up to another one; else an error of its own. -/
def Rr.upto (err : Int) (below : Nat) (r : Rr) : Rr × Nat := if r.uint.1.e = 0 ∧ below ≤ r.uint.2 then (⟨r.uint.1.b, err⟩, 0) else r.uint
theorem upto_err {r : Rr} (h : r.e ≠ 0) (err : Int) (below : Nat) : Rr.upto err below r = (r, 0) := by
  unfold Rr.upto
  rw [Rr.uint_err h, if_neg (by intro h'; exact h h'.1)]
theorem cdc_upto (err : Int) (he : err ≠ 0) (below : Nat) (hb : below ≤ 18446744073709551616) : Cdc (Rr.upto err below) (fun x => x < below) encU where
  stick r h := by simp only [upto_err h]
  put v h t := by
    have hu := Rr.uint_enc (x := v) (by omega) t
    simp only [Rr.upto, hu]
    rw [if_neg (by omega)]
  cut v h m hm := by
    have hu := (Rr.uint_short (x := v) (by omega) m hm).1
    simp only [Rr.upto]
    rw [if_neg (by rw [hu]; omega)]
    exact hu
  inv b h := by
    rcases Rr.uint_cases b with ⟨x, l, hx, e, hu⟩ | ⟨h1, h2⟩
    · simp only [Rr.upto, hu] at h ⊢
      by_cases hc : below ≤ x
      · rw [if_pos ⟨trivial, hc⟩] at h; exact absurd h he
      · rw [if_neg (by intro h'; exact hc h'.2)]
        exact ⟨by omega, e⟩
    · simp only [Rr.upto] at h
      rw [if_neg (by intro h'; exact h1 h'.1)] at h
      exact absurd h h1

/-- Reading a field onto a message. -/
def readF (f : Nat) (m : Mm) (r : Rr) : Rr × Mm :=
  match f with
  | 0 => ((r.uint).1, { m with ballot := r.uint.2 })
  | 1 => ((r.uint).1, { m with slot := r.uint.2 })
  | 2 => ((Rr.upto 11 8 r).1, { m with shard := ((Rr.upto 11 8 r).2 : Int) })
  | 3 => ((Rr.upto 11 4 r).1, { m with seg := ((Rr.upto 11 4 r).2 : Int) })
  | 4 => ((r.uint).1, { m with client := r.uint.2 })
  | 5 => ((r.uint).1, { m with seq := r.uint.2 })
  | 6 => ((r.uint).1, { m with pos := r.uint.2 })
  | 7 => ((Rr.upto 11 256 r).1, { m with code := ((Rr.upto 11 256 r).2 : Int) })
  | 8 => ((both (Rr.upto 13 257) (fun n => NB.rep Rr.uint n) r).1, { m with vec := (both (Rr.upto 13 257) (fun n => NB.rep Rr.uint n) r).2.2 })
  | 9 => ((r.bytes 32768).1, { m with body := (r.bytes 32768).2 })
  | _ => (r, m)

/-- A field as it may be read. -/
def okFl (f : Nat) (m : Mm) : Prop :=
  match f with
  | 0 => m.ballot < 18446744073709551616
  | 1 => m.slot < 18446744073709551616
  | 2 => 0 ≤ m.shard ∧ m.shard < 8
  | 3 => 0 ≤ m.seg ∧ m.seg < 4
  | 4 => m.client < 18446744073709551616
  | 5 => m.seq < 18446744073709551616
  | 6 => m.pos < 18446744073709551616
  | 7 => 0 ≤ m.code ∧ m.code < 256
  | 8 => m.vec.length < 257 ∧ ∀ x ∈ m.vec, x < 18446744073709551616
  | 9 => m.body.length ≤ 32768
  | _ => True
/-- One message's field laid onto another one. -/
def setF (f : Nat) (m v : Mm) : Mm :=
  match f with
  | 0 => { m with ballot := v.ballot }
  | 1 => { m with slot := v.slot }
  | 2 => { m with shard := v.shard }
  | 3 => { m with seg := v.seg }
  | 4 => { m with client := v.client }
  | 5 => { m with seq := v.seq }
  | 6 => { m with pos := v.pos }
  | 7 => { m with code := v.code }
  | 8 => { m with vec := v.vec }
  | 9 => { m with body := v.body }
  | _ => m

theorem bytes_cases (b : List UInt8) (h : (Rr.bytes ⟨b, 0⟩ 32768).1.e = 0) : (Rr.bytes ⟨b, 0⟩ 32768).2.length ≤ 32768 ∧ b = encB (Rr.bytes ⟨b, 0⟩ 32768).2 ++ (Rr.bytes ⟨b, 0⟩ 32768).1.b := by
  rcases Rr.uint_cases b with ⟨x, l, hx, e, hu⟩ | ⟨h1, h2⟩
  · simp only [Rr.bytes, hu] at h ⊢
    simp only [ne_eq, not_true_eq_false, if_false] at h ⊢
    by_cases h3 : (32768 : Int) < x
    · simp [h3, Rr.fail] at h
    · have h4 : ¬ ((32768 : Int) < 0 ∨ (32768 : Int) < x) := by omega
      rw [if_neg h4] at h ⊢
      have h5 : ¬ ((x : Int) < 0) := by omega
      simp only [Rr.raw, h5, if_false, Int.toNat_natCast] at h ⊢
      by_cases h6 : l.length < x
      · rw [Rr.take_short h6] at h; simp at h
      · rw [Rr.take_ok (by omega)]
        refine ⟨by simp only [List.length_take]; omega, ?_⟩
        simp only [encB, List.length_take, Nat.min_eq_left (show x ≤ l.length by omega), List.append_assoc, List.take_append_drop]
        exact e
  · have h3 : (Rr.bytes ⟨b, 0⟩ 32768).1.e ≠ 0 := by
      simp only [Rr.bytes]
      rw [if_pos h1]
      exact h1
    exact absurd h h3
theorem bytes_short {b : List UInt8} (hb : b.length ≤ 32768) (m : Nat) (hm : m < (encB b).length) : (Rr.bytes ⟨(encB b).take m, 0⟩ 32768).1.e = 10 := by
  by_cases h : m < (encU b.length).length
  · have h1 := (Rr.uint_short (x := b.length) (by omega) m h).1
    rw [encB, List.take_append_of_le_length (by omega)]
    simp only [Rr.bytes]
    rw [if_pos (by rw [h1]; decide)]
    exact h1
  · have hu := Rr.uint_enc (x := b.length) (by omega) (b.take (m - (encU b.length).length))
    rw [encB, List.take_append, List.take_of_length_le (by omega)]
    simp only [Rr.bytes, hu]
    rw [if_neg (by simp)]
    have h4 : ¬ ((32768 : Int) < 0 ∨ (32768 : Int) < (b.length : Int)) := by omega
    rw [if_neg h4]
    have h5 : ¬ ((b.length : Int) < 0) := by omega
    simp only [Rr.raw, h5, if_false, Int.toNat_natCast]
    rw [encB, List.length_append] at hm
    rw [Rr.take_short (by rw [List.length_take]; omega)]
theorem vec_cdc : Cdc (both (Rr.upto 13 257) (fun n => NB.rep Rr.uint n)) (fun v => v.1 < 257 ∧ v.2.length = v.1 ∧ ∀ x ∈ v.2, x < 18446744073709551616) (fun v => encU v.1 ++ v.2.flatMap encU) :=
  (cdc_upto 13 (by decide) 257 (by omega)).both (Q := fun n => NB.rep Rr.uint n) (okQ := fun n l => l.length = n ∧ ∀ x ∈ l, x < 18446744073709551616) (encQ := fun _ l => l.flatMap encU) (fun n r h => NB.rep_stick NB.cdc_uint.stick n r h) (fun n _ => NB.cdc_uint.rep n)

theorem readF_stick (f : Nat) (m : Mm) (r : Rr) (h : r.e ≠ 0) : (readF f m r).1 = r := by
  unfold readF
  split <;> simp only [Rr.uint_err h, upto_err h, Rr.bytes_err h, vec_cdc.stick r h]

theorem readF_put (f : Nat) (hf : f < 10) (m v : Mm) (hv : okFl f v) (t : List UInt8) : readF f m ⟨encFl v f ++ t, 0⟩ = (⟨t, 0⟩, setF f m v) := by
  have hc : f = 0 ∨ f = 1 ∨ f = 2 ∨ f = 3 ∨ f = 4 ∨ f = 5 ∨ f = 6 ∨ f = 7 ∨ f = 8 ∨ f = 9 := by omega
  rcases hc with rfl | rfl | rfl | rfl | rfl | rfl | rfl | rfl | rfl | rfl
  · simp only [readF, encFl, setF, Rr.uint_enc (show v.ballot < _ from hv)]
  · simp only [readF, encFl, setF, Rr.uint_enc (show v.slot < _ from hv)]
  · obtain ⟨h1, h2⟩ := hv
    simp only [readF, encFl, setF, (cdc_upto 11 (by decide) 8 (by omega)).put v.shard.toNat (by omega) t, show ((v.shard.toNat : Nat) : Int) = v.shard by omega]
  · obtain ⟨h1, h2⟩ := hv
    simp only [readF, encFl, setF, (cdc_upto 11 (by decide) 4 (by omega)).put v.seg.toNat (by omega) t, show ((v.seg.toNat : Nat) : Int) = v.seg by omega]
  · simp only [readF, encFl, setF, Rr.uint_enc (show v.client < _ from hv)]
  · simp only [readF, encFl, setF, Rr.uint_enc (show v.seq < _ from hv)]
  · simp only [readF, encFl, setF, Rr.uint_enc (show v.pos < _ from hv)]
  · obtain ⟨h1, h2⟩ := hv
    simp only [readF, encFl, setF, (cdc_upto 11 (by decide) 256 (by omega)).put v.code.toNat (by omega) t, show ((v.code.toNat : Nat) : Int) = v.code by omega]
  · obtain ⟨h1, h2⟩ := hv
    simp only [readF, encFl, setF, vec_cdc.put (v.vec.length, v.vec) ⟨h1, rfl, h2⟩ t]
  · have h1 : v.body.length ≤ 32768 := hv
    simp only [readF, encFl, setF, Rr.bytes_enc (show v.body.length < _ by omega) t (show ((v.body.length : Nat) : Int) ≤ 32768 by omega)]

theorem readF_cut (f : Nat) (hf : f < 10) (m v : Mm) (hv : okFl f v) (n : Nat) (hn : n < (encFl v f).length) : (readF f m ⟨(encFl v f).take n, 0⟩).1.e = 10 := by
  have hc : f = 0 ∨ f = 1 ∨ f = 2 ∨ f = 3 ∨ f = 4 ∨ f = 5 ∨ f = 6 ∨ f = 7 ∨ f = 8 ∨ f = 9 := by omega
  rcases hc with rfl | rfl | rfl | rfl | rfl | rfl | rfl | rfl | rfl | rfl
  · exact (Rr.uint_short (show v.ballot < _ from hv) n hn).1
  · exact (Rr.uint_short (show v.slot < _ from hv) n hn).1
  · obtain ⟨h1, h2⟩ := hv
    exact (cdc_upto 11 (by decide) 8 (by omega)).cut v.shard.toNat (by omega) n hn
  · obtain ⟨h1, h2⟩ := hv
    exact (cdc_upto 11 (by decide) 4 (by omega)).cut v.seg.toNat (by omega) n hn
  · exact (Rr.uint_short (show v.client < _ from hv) n hn).1
  · exact (Rr.uint_short (show v.seq < _ from hv) n hn).1
  · exact (Rr.uint_short (show v.pos < _ from hv) n hn).1
  · obtain ⟨h1, h2⟩ := hv
    exact (cdc_upto 11 (by decide) 256 (by omega)).cut v.code.toNat (by omega) n hn
  · obtain ⟨h1, h2⟩ := hv
    exact vec_cdc.cut (v.vec.length, v.vec) ⟨h1, rfl, h2⟩ n hn
  · exact bytes_short (show v.body.length ≤ 32768 from hv) n hn

/-- What is read is what would be put. -/
theorem readF_inv (f : Nat) (hf : f < 10) (m : Mm) (b : List UInt8) (h : (readF f m ⟨b, 0⟩).1.e = 0) :
    okFl f (readF f m ⟨b, 0⟩).2 ∧ b = encFl (readF f m ⟨b, 0⟩).2 f ++ (readF f m ⟨b, 0⟩).1.b ∧ setF f m (readF f m ⟨b, 0⟩).2 = (readF f m ⟨b, 0⟩).2 := by
  have hc : f = 0 ∨ f = 1 ∨ f = 2 ∨ f = 3 ∨ f = 4 ∨ f = 5 ∨ f = 6 ∨ f = 7 ∨ f = 8 ∨ f = 9 := by omega
  rcases hc with rfl | rfl | rfl | rfl | rfl | rfl | rfl | rfl | rfl | rfl
  · exact ⟨(NB.cdc_uint.inv b h).1, (NB.cdc_uint.inv b h).2, rfl⟩
  · exact ⟨(NB.cdc_uint.inv b h).1, (NB.cdc_uint.inv b h).2, rfl⟩
  · have hi := (cdc_upto 11 (by decide) 8 (by omega)).inv b h
    exact ⟨⟨by simp only [readF]; omega, by have := hi.1; simp only [readF]; omega⟩, by simpa [readF, encFl] using hi.2, rfl⟩
  · have hi := (cdc_upto 11 (by decide) 4 (by omega)).inv b h
    exact ⟨⟨by simp only [readF]; omega, by have := hi.1; simp only [readF]; omega⟩, by simpa [readF, encFl] using hi.2, rfl⟩
  · exact ⟨(NB.cdc_uint.inv b h).1, (NB.cdc_uint.inv b h).2, rfl⟩
  · exact ⟨(NB.cdc_uint.inv b h).1, (NB.cdc_uint.inv b h).2, rfl⟩
  · exact ⟨(NB.cdc_uint.inv b h).1, (NB.cdc_uint.inv b h).2, rfl⟩
  · have hi := (cdc_upto 11 (by decide) 256 (by omega)).inv b h
    exact ⟨⟨by simp only [readF]; omega, by have := hi.1; simp only [readF]; omega⟩, by simpa [readF, encFl] using hi.2, rfl⟩
  · obtain ⟨⟨h1, h2, h3⟩, h4⟩ := vec_cdc.inv b h
    refine ⟨⟨by simp only [readF]; omega, by simpa only [readF] using h3⟩, ?_, rfl⟩
    simp only [readF, encFl]
    rw [h2]
    exact h4
  · exact ⟨(bytes_cases b h).1, (bytes_cases b h).2, rfl⟩

/-- Reading fields one behind the other; behind an error nothing. -/
def readFs : List Nat → Mm → Rr → Rr × Mm
  | [], m, r => (r, m)
  | f :: l, m, r => readFs l (readF f m r).2 (readF f m r).1
theorem readFs_stick : ∀ (l : List Nat) (m : Mm) (r : Rr), r.e ≠ 0 → (readFs l m r).1 = r
  | [], _, _, _ => rfl
  | f :: l, m, r, h => by
    simp only [readFs]
    rw [readF_stick f m r h]
    exact readFs_stick l _ r h
theorem readFs_app (l l' : List Nat) : ∀ (m : Mm) (r : Rr), readFs (l ++ l') m r = readFs l' (readFs l m r).2 (readFs l m r).1 := by
  induction l with
  | nil => intro m r; rfl
  | cons f l ih => intro m r; exact ih _ _
def setFs (l : List Nat) (m v : Mm) : Mm := l.foldl (fun m f => setF f m v) m
theorem readFs_put : ∀ (l : List Nat) (_ : ∀ f ∈ l, f < 10) (m v : Mm) (_ : ∀ f ∈ l, okFl f v) (t : List UInt8), readFs l m ⟨l.flatMap (encFl v) ++ t, 0⟩ = (⟨t, 0⟩, setFs l m v)
  | [], _, m, v, _, t => rfl
  | f :: l, hf, m, v, hv, t => by
    simp only [readFs, List.flatMap_cons, List.append_assoc]
    rw [readF_put f (hf f (by simp)) m v (hv f (by simp))]
    exact readFs_put l (fun g hg => hf g (by simp [hg])) _ v (fun g hg => hv g (by simp [hg])) t

/-- A field is another one's business not. -/
theorem encFl_set (f g : Nat) (h : f ≠ g) (hf : f < 10) (m v : Mm) : encFl (setF f m v) g = encFl m g ∧ (okFl g (setF f m v) ↔ okFl g m) ∧ hasF (setF f m v) g = hasF m g := by
  have hc : f = 0 ∨ f = 1 ∨ f = 2 ∨ f = 3 ∨ f = 4 ∨ f = 5 ∨ f = 6 ∨ f = 7 ∨ f = 8 ∨ f = 9 := by omega
  rcases hc with rfl | rfl | rfl | rfl | rfl | rfl | rfl | rfl | rfl | rfl <;>
  (match g, h with
   | 0, h => first | exact absurd rfl h | exact ⟨rfl, Iff.rfl, rfl⟩
   | 1, h => first | exact absurd rfl h | exact ⟨rfl, Iff.rfl, rfl⟩
   | 2, h => first | exact absurd rfl h | exact ⟨rfl, Iff.rfl, rfl⟩
   | 3, h => first | exact absurd rfl h | exact ⟨rfl, Iff.rfl, rfl⟩
   | 4, h => first | exact absurd rfl h | exact ⟨rfl, Iff.rfl, rfl⟩
   | 5, h => first | exact absurd rfl h | exact ⟨rfl, Iff.rfl, rfl⟩
   | 6, h => first | exact absurd rfl h | exact ⟨rfl, Iff.rfl, rfl⟩
   | 7, h => first | exact absurd rfl h | exact ⟨rfl, Iff.rfl, rfl⟩
   | 8, h => first | exact absurd rfl h | exact ⟨rfl, Iff.rfl, rfl⟩
   | 9, h => first | exact absurd rfl h | exact ⟨rfl, Iff.rfl, rfl⟩
   | n + 10, _ => exact ⟨rfl, Iff.rfl, rfl⟩)
theorem setF_kind (f : Nat) (m v : Mm) : (setF f m v).kind = m.kind := by unfold setF; split <;> rfl
theorem readF_kind (f : Nat) (m : Mm) (r : Rr) : (readF f m r).2.kind = m.kind := by unfold readF; split <;> rfl
theorem readFs_kind : ∀ (l : List Nat) (m : Mm) (r : Rr), (readFs l m r).2.kind = m.kind
  | [], _, _ => rfl
  | f :: l, m, r => (readFs_kind l _ _).trans (readF_kind f m r)

/-- The fields that aren't read stay. -/
theorem readFs_other (g : Nat) : ∀ (l : List Nat) (_ : ∀ f ∈ l, f < 10) (_ : g ∉ l) (m : Mm) (b : List UInt8) (_ : (readFs l m ⟨b, 0⟩).1.e = 0),
    encFl (readFs l m ⟨b, 0⟩).2 g = encFl m g ∧ (okFl g (readFs l m ⟨b, 0⟩).2 ↔ okFl g m) ∧ hasF (readFs l m ⟨b, 0⟩).2 g = hasF m g
  | [], _, _, m, b, _ => ⟨rfl, Iff.rfl, rfl⟩
  | f :: l, hf, hg, m, b, h => by
    simp only [readFs] at h ⊢
    have h0 : (readF f m ⟨b, 0⟩).1.e = 0 := by
      by_cases h1 : (readF f m ⟨b, 0⟩).1.e = 0
      · exact h1
      · rw [readFs_stick l _ _ h1] at h; exact h
    obtain ⟨h1, h2, h3⟩ := readF_inv f (hf f (by simp)) m b h0
    have h4 := encFl_set f g (by intro e; exact hg (by simp [e])) (hf f (by simp)) m (readF f m ⟨b, 0⟩).2
    rw [h3] at h4
    rw [Rr.eta h0] at h ⊢
    obtain ⟨i1, i2, i3⟩ := readFs_other g l (fun f' hf' => hf f' (by simp [hf'])) (fun hg' => hg (by simp [hg'])) (readF f m ⟨b, 0⟩).2 (readF f m ⟨b, 0⟩).1.b h
    exact ⟨i1.trans h4.1, i2.trans h4.2.1, i3.trans h4.2.2⟩
theorem readFs_inv : ∀ (l : List Nat) (_ : ∀ f ∈ l, f < 10) (_ : l.Nodup) (m : Mm) (b : List UInt8) (_ : (readFs l m ⟨b, 0⟩).1.e = 0),
    (∀ f ∈ l, okFl f (readFs l m ⟨b, 0⟩).2) ∧ b = l.flatMap (encFl (readFs l m ⟨b, 0⟩).2) ++ (readFs l m ⟨b, 0⟩).1.b
  | [], _, _, m, b, _ => ⟨by simp, rfl⟩
  | f :: l, hf, hn, m, b, h => by
    simp only [readFs] at h ⊢
    have h0 : (readF f m ⟨b, 0⟩).1.e = 0 := by
      by_cases h1 : (readF f m ⟨b, 0⟩).1.e = 0
      · exact h1
      · rw [readFs_stick l _ _ h1] at h; exact h
    obtain ⟨h1, h2, h3⟩ := readF_inv f (hf f (by simp)) m b h0
    rw [Rr.eta h0] at h ⊢
    rw [List.nodup_cons] at hn
    obtain ⟨i1, i2⟩ := readFs_inv l (fun f' hf' => hf f' (by simp [hf'])) hn.2 (readF f m ⟨b, 0⟩).2 (readF f m ⟨b, 0⟩).1.b h
    obtain ⟨j1, j2, _⟩ := readFs_other f l (fun f' hf' => hf f' (by simp [hf'])) hn.1 (readF f m ⟨b, 0⟩).2 (readF f m ⟨b, 0⟩).1.b h
    refine ⟨fun g hg => ?_, ?_⟩
    · rcases List.mem_cons.1 hg with rfl | hg
      · exact j2.2 h1
      · exact i1 g hg
    · rw [List.flatMap_cons, List.append_assoc, ← i2, j1]
      exact h2

def mgetM (b : List UInt8) : Mm × Int :=
  if (fgetM b).2.2 ≠ 0 then (mm0, (fgetM b).2.2)
  else if (fgetM b).2.1 < b.length ∨ known ((fgetM b).1.1.toNat : Int) = false then (mm0, 11)
  else if (readFs (flds (fgetM b).1.1.toNat) { mm0 with kind := ((fgetM b).1.1.toNat : Int) } ⟨(fgetM b).1.2, 0⟩).1.fin ≠ 0 then (mm0, (readFs (flds (fgetM b).1.1.toNat) { mm0 with kind := ((fgetM b).1.1.toNat : Int) } ⟨(fgetM b).1.2, 0⟩).1.fin)
  else ((readFs (flds (fgetM b).1.1.toNat) { mm0 with kind := ((fgetM b).1.1.toNat : Int) } ⟨(fgetM b).1.2, 0⟩).2, 0)
end Go.Proofs.YtadgokegjmigoaaDoor
