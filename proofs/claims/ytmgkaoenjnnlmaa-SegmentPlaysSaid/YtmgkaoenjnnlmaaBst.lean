/- '[]byte(s)': a row of its own. No program in sight. -/
import Derived.Test.YtmgkaoenjnnlmaaTail
import Derived.Laws.IdiomStrings
namespace Go.NB
open Go Go.RowKit

/-- '[]byte(s)': a row of its own. -/
theorem rd_bytesRow (bs : List UInt8) (w : World) (e : TypeId) (c : Nat) (fr : Nat × Nat) (hc : bs.length ≤ c) (hm : c ≤ maxLen) : RdB (w.alloc (.cells (bytesRow ⟨bs.toArray⟩ c) e fr)) (some ⟨w.heap.size, 0, none⟩) bs.length c bs where
  len := by simp
  le := hc
  max := hm
  nil := fun h => nomatch h
  adr := fun _ => ⟨_, _, rfl⟩
  cell := fun b o e2 i v hv => by
    cases e2
    have hi : i < bs.length := by have := (List.getElem?_eq_some_iff.1 hv).1; simpa using this
    have e3 : (w.alloc (.cells (bytesRow ⟨bs.toArray⟩ c) e fr)).heap[w.heap.size]? = some (.cells (bytesRow ⟨bs.toArray⟩ c) e fr) := by
      show (w.heap.push _)[w.heap.size]? = _
      simp
    unfold World.cell?
    simp only [e3]
    rw [show (0 + i) = i by omega]
    rw [← hv]
    simp only [bytesRow]
    rw [Array.getElem?_append_left (by simpa using hi)]
    simp [u8v, hi]
theorem wpList_bytes_str {P : Program} {w : World} {ops : Array Oper} {rest : List Oper} {o : Oper} {a : Act} {Q : Exit → Act → World → Prop} (hgd : Region.wanted o (yielded ops a.tmps) = true) (src dst : TypeId) {e : TypeId} (x : Operand) (ho : o.op = .convert src dst x)
    (hs : P.underlying src = some .string) (hd : P.underlying dst = some (.slice e)) (he : P.underlying e = some (.int .u8)) (bs : List UInt8) (hx : a.eval x = .string ⟨bs.toArray⟩) (hm : bs.length ≤ maxLen)
    (h : ∀ (w' : World) (c : Nat), RdB w' (some ⟨w.heap.size, 0, none⟩) bs.length c bs → Below w.heap.size w w' → wpList P ops Q rest (a.put o.dst (.slice (some ⟨w.heap.size, 0, none⟩) bs.length c)) w') : wpList P ops Q (o :: rest) a w := by
  refine wpList_wanted hgd fun K hK => ?_
  unfold Oper.wp execOp
  simp only [ho, hx, Sem.run_bind, Sem.run_pure, Result.andThen_ok, run_bytes_of_string w src dst e ⟨bs.toArray⟩ hs hd he]
  have hsz : (ByteArray.mk bs.toArray).size = bs.length := by simp [ByteArray.size]
  rw [hsz]
  refine hK _ _ (h _ _ (rd_bytesRow bs w.drew e _ _ (grownCap_ge _ _ _ _) (grownCap_le_maxLen _ _ _ _ hm)) ?_)
  exact ((Below.refl _ w).drew).alloc (Nat.le_refl _) _
end Go.NB
