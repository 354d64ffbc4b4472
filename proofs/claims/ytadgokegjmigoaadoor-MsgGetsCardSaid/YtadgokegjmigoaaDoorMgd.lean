/- A message is put: walked. -/
import Derived.Test.YtadgokegjmigoaaDoorMgc
import Derived.Test.YtadgokegjmigoaaDoorNuma
import Derived.Test.YtadgokegjmigoaaDoorFrb
import Derived.Test.YtadgokegjmigoaaDoorTrw
namespace Go.Proofs.YtadgokegjmigoaaDoor
open Go.RowKit Go.Shelf
open Go.NB (Rd Kp Stp Off Dis oneB dB Rw RdU Lp encU encB)
attribute [local go_sem] Oper.semAt_some

/-- While the fields are put: 'bs' stands in the writer. -/
structure PS (w : World) (m : Mm) (av : Option Addr) (cv : Nat) (ab : Option Addr) (cb : Nat) (pw wb bx b5 bb lo : Nat) (k : Int) (bs : List UInt8) (W : World) : Prop where
  wr : ∃ F, HasW W wb pw F bs ∧ ∀ j, F j → j ≠ bx ∧ j ≠ b5 ∧ j ≠ bb ∧ j ≠ lo ∧ j ≠ lo + 1
  box : Rw W bx (msgV m av cv ab cb) 32
  ptr : Rw W b5 [.pointer (some ⟨pw, 0, none⟩)] 78
  kb : Rw W bb [.int .i64 k] 3
  bel : Below w.heap.size w W
  lt : lo + 1 < W.heap.size
  ap : bx ≠ lo ∧ b5 ≠ lo ∧ bb ≠ lo ∧ bx ≠ lo + 1 ∧ b5 ≠ lo + 1 ∧ bb ≠ lo + 1 ∧ w.heap.size ≤ lo ∧ w.heap.size ≤ wb
section
variable {w : World} {m : Mm} {av : Option Addr} {cv : Nat} {ab : Option Addr} {cb : Nat} {pw wb bx b5 bb lo : Nat} {k : Int} {bs bs' : List UInt8} {W W' : World}
/-- The loop's blocks turn. -/
theorem PS.loop (h : PS w m av cv ab cb pw wb bx b5 bb lo k bs W) (o : Obj) : PS w m av cv ab cb pw wb bx b5 bb lo k bs (W.putObj (lo + 1) o) := by
  have hk := NB.kp_put W (lo + 1) o
  obtain ⟨F, hw, hF⟩ := h.wr
  obtain ⟨a1, a2, a3, a4, a5, a6, a7, a8⟩ := h.ap
  have hs := hk.size
  exact ⟨⟨F, hw.keep hk (fun j hf e => (hF j hf).2.2.2.2 e), hF⟩, h.box.keep hk a4, h.ptr.keep hk a5, h.kb.keep hk a6, h.bel.trans (hk.belowB h.bel.size (by rintro j rfl; omega)), Nat.lt_of_lt_of_le h.lt hs, h.ap⟩
theorem PS.below (h : PS w m av cv ab cb pw wb bx b5 bb lo k bs W) (hb : Below W.heap.size W W') : PS w m av cv ab cb pw wb bx b5 bb lo k bs W' := by
  obtain ⟨F, hw, hF⟩ := h.wr
  exact ⟨⟨F, hw.below hb, hF⟩, h.box.below hb, h.ptr.below hb, h.kb.below hb, NB.bel h.bel hb h.bel.size, Nat.lt_of_lt_of_le h.lt hb.size, h.ap⟩
/-- The writer's step. -/
theorem PS.step {F F' : Nat → Prop} (h : PS w m av cv ab cb pw wb bx b5 bb lo k bs W) (hF : ∀ j, F j → j ≠ bx ∧ j ≠ b5 ∧ j ≠ bb ∧ j ≠ lo ∧ j ≠ lo + 1) (hb : ∀ j, F j → w.heap.size ≤ j) (hw : HasW W' wb pw F' bs') (hs : Stp F F' W W') : PS w m av cv ab cb pw wb bx b5 bb lo k bs' W' ∧ Kp (fun j => j ≠ lo ∧ j ≠ lo + 1) W W' := by
  have hsz := hs.size
  have hlt := h.lt
  have l1 := h.box.lt
  have l2 := h.ptr.lt
  have l3 := h.kb.lt
  refine ⟨⟨⟨F', hw, fun j hj => ?_⟩, h.box.keep hs.kp (fun hf => (hF _ hf).1 rfl), h.ptr.keep hs.kp (fun hf => (hF _ hf).2.1 rfl), h.kb.keep hs.kp (fun hf => (hF _ hf).2.2.1 rfl), h.bel.trans (hs.low h.bel.size hb), Nat.lt_of_lt_of_le hlt hsz, h.ap⟩, hs.kp.imp fun j hj => ⟨(hF j hj).2.2.2.1, (hF j hj).2.2.2.2⟩⟩
  rcases hs.sub j hj with h1 | h1
  · exact hF j h1
  · refine ⟨?_, ?_, ?_, ?_, ?_⟩ <;> omega
end
/-- A number is put. -/
theorem ps_uint {w : World} {m : Mm} {av : Option Addr} {cv : Nat} {ab : Option Addr} {cb : Nat} {pw wb bx b5 bb lo : Nat} {k : Int} {bs : List UInt8} {W : World} (h : PS w m av cv ab cb pw wb bx b5 bb lo k bs W) (x : Nat) (hx : x < 18446744073709551616) (hs : bs.length ≤ 100000000) :
    Calls Tryd.prog 33 #[.pointer (some ⟨pw, 0, none⟩), .int .u64 (x : Int)] W fun e W' => e = .returned (.tuple #[]) ∧ PS w m av cv ab cb pw wb bx b5 bb lo k (bs ++ encU x) W' ∧ Kp (fun j => j ≠ lo ∧ j ≠ lo + 1) W W' := by
  obtain ⟨F, hw, hF⟩ := h.wr
  refine (wuint_any W wb pw F bs x hx hw (by omega)).mono ?_
  rintro e W' ⟨rfl, F', hw', hS⟩
  exact ⟨rfl, h.step hF (fun j hj => Nat.le_trans h.ap.2.2.2.2.2.2.2 (hw.foot j hj).1) hw' hS⟩
theorem ps_bytes {w : World} {m : Mm} {av : Option Addr} {cv : Nat} {ab : Option Addr} {cb : Nat} {pw wb bx b5 bb lo : Nat} {k : Int} {bs : List UInt8} {W : World} (h : PS w m av cv ab cb pw wb bx b5 bb lo k bs W) (a : Option Addr) (n c : Nat) (b : List UInt8) (hr : NB.RdB w a n c b) (hs : bs.length + b.length ≤ 100000000) :
    Calls Tryd.prog 34 #[.pointer (some ⟨pw, 0, none⟩), .slice a n c] W fun e W' => e = .returned (.tuple #[]) ∧ PS w m av cv ab cb pw wb bx b5 bb lo k (bs ++ encB b) W' ∧ Kp (fun j => j ≠ lo ∧ j ≠ lo + 1) W W' := by
  obtain ⟨F, hw, hF⟩ := h.wr
  refine (wbytes_any W wb pw F bs a n c b hw (Off.old hr h.bel (fun j hj => Nat.le_trans h.ap.2.2.2.2.2.2.2 (hw.foot j hj).1)) (by omega)).mono ?_
  rintro e W' ⟨rfl, F', hw', hS⟩
  exact ⟨rfl, h.step hF (fun j hj => Nat.le_trans h.ap.2.2.2.2.2.2.2 (hw.foot j hj).1) hw' hS⟩
/-- What stands in the writer when the first i fields have been looked at. -/
def preL (m : Mm) (i : Nat) : List UInt8 := ((List.range i).filter fun f => (flds m.kind.toNat).contains f).flatMap (encFl m)
theorem preL_no (m : Mm) (i : Nat) (h : (flds m.kind.toNat).contains i = false) : preL m (i + 1) = preL m i := by
  unfold preL; rw [List.range_succ, List.filter_append, List.filter_cons, h]; simp
theorem preL_yes (m : Mm) (i : Nat) (h : (flds m.kind.toNat).contains i = true) : preL m (i + 1) = preL m i ++ encFl m i := by
  unfold preL; rw [List.range_succ, List.filter_append, List.filter_cons, h, List.flatMap_append]; simp
theorem flds_sorted : ∀ k, k < 19 → (List.range 10).filter (fun f => (flds k).contains f) = flds k := by decide
theorem preL_all (m : Mm) (h : m.kind.toNat < 19) : preL m 10 = bodyL m := by unfold preL bodyL; rw [flds_sorted _ h]
theorem preL_len (m : Mm) (hok : ∀ g < 10, okFl g m) (i : Nat) (hi : i ≤ 10) : (preL m i).length ≤ 400000 := by
  have h1 := flat_len m hok ((List.range i).filter fun f => (flds m.kind.toNat).contains f)
  refine Nat.le_trans h1 ?_
  have : ∀ l : List Nat, (l.map bndF).sum ≤ 40000 * l.length := by
    intro l
    induction l with
    | nil => simp
    | cons x l ih =>
      have hx : bndF x ≤ 40000 := by unfold bndF; repeat (first | omega | split)
      simp only [List.map_cons, List.sum_cons, List.length_cons]
      omega
  have h2 := this ((List.range i).filter fun f => (flds m.kind.toNat).contains f)
  have h3 := List.length_filter_le (fun f => (flds m.kind.toNat).contains f) (List.range i)
  rw [List.length_range] at h3
  omega
end Go.Proofs.YtadgokegjmigoaaDoor
