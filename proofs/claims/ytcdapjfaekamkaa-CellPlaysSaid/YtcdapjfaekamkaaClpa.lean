/- The cell's statement CellPlays: what holds ahead of each round, and '[]byte(s)'. No walk in it. -/
import Derived.Test.YtcdapjfaekamkaaClw
import Derived.Test.YtcdapjfaekamkaaRse
import Derived.Test.YtcdapjfaekamkaaRfg8
import Derived.Laws.IdiomStrings
namespace Go.NB
open Go Go.RowKit

/-- '[]byte(s)': a row of its own. -/
theorem rd_bytesRow (bs : List UInt8) (w : World) (e : TypeId) (c : Nat) (fr : Nat × Nat) (hc : bs.length ≤ c) (hm : c ≤ maxLen) : RdB (w.alloc (.cells (bytesRow ⟨bs.toArray⟩ c) e fr)) (some ⟨w.heap.size, 0, none⟩) bs.length c bs where
  len := by simp
  le := hc
  max := hm
  nil := fun h => nomatch h
  adr := fun _ => ⟨_, _, rfl⟩
  cell := fun b o e2 i v hv => by
    cases e2
    have hi : i < bs.length := by have := (List.getElem?_eq_some_iff.1 hv).1; simpa using this
    have e3 : (w.alloc (.cells (bytesRow ⟨bs.toArray⟩ c) e fr)).heap[w.heap.size]? = some (.cells (bytesRow ⟨bs.toArray⟩ c) e fr) := by
      show (w.heap.push _)[w.heap.size]? = _
      simp
    unfold World.cell?
    simp only [e3]
    rw [show (0 + i) = i by omega]
    rw [← hv]
    simp only [bytesRow]
    rw [Array.getElem?_append_left (by simpa using hi)]
    simp [u8v, hi]
theorem wpList_bytes_str {P : Program} {w : World} {ops : Array Oper} {rest : List Oper} {o : Oper} {a : Act} {Q : Exit → Act → World → Prop} (hgd : Region.wanted o (yielded ops a.tmps) = true) (src dst : TypeId) {e : TypeId} (x : Operand) (ho : o.op = .convert src dst x)
    (hs : P.underlying src = some .string) (hd : P.underlying dst = some (.slice e)) (he : P.underlying e = some (.int .u8)) (bs : List UInt8) (hx : a.eval x = .string ⟨bs.toArray⟩) (hm : bs.length ≤ maxLen)
    (h : ∀ (w' : World) (c : Nat), RdB w' (some ⟨w.heap.size, 0, none⟩) bs.length c bs → Below w.heap.size w w' → wpList P ops Q rest (a.put o.dst (.slice (some ⟨w.heap.size, 0, none⟩) bs.length c)) w') : wpList P ops Q (o :: rest) a w := by
  refine wpList_wanted hgd fun K hK => ?_
  unfold Oper.wp execOp
  simp only [ho, hx, Sem.run_bind, Sem.run_pure, Result.andThen_ok, run_bytes_of_string w src dst e ⟨bs.toArray⟩ hs hd he]
  have hsz : (ByteArray.mk bs.toArray).size = bs.length := by simp [ByteArray.size]
  rw [hsz]
  refine hK _ _ (h _ _ (rd_bytesRow bs w.drew e _ _ (grownCap_ge _ _ _ _) (grownCap_le_maxLen _ _ _ _ hm)) ?_)
  exact ((Below.refl _ w).drew).alloc (Nat.le_refl _) _
end Go.NB
namespace Go.Proofs.Ytcdapjfaekamkaa
open Go.RowKit
open Go.NB (Rd Dk Kp Stp Off Dis val Ce footC)

theorem and_small (x : Int) : (∃ j : Nat, j < 2 ∧ bits .and .i64 x 1 = (j : Int)) := by
  have h : (BitVec.ofInt 64 x &&& BitVec.ofInt 64 1).toNat < 2 := by
    rw [BitVec.toNat_and]
    have : (BitVec.ofInt 64 1).toNat = 1 := by decide
    rw [this, Nat.and_one_is_mod]
    omega
  refine ⟨_, h, ?_⟩
  show IntKind.i64.wrap ((BitVec.ofInt 64 x &&& BitVec.ofInt 64 1).toNat : Int) = _
  rw [IntKind.wrap_i64]
  omega

/-- What holds of the model of a cell. -/
structure CI (n : Nat) (c : Ce) : Prop where
  at_ : c.at_ = n
  now : c.now = -1 ∨ c.now = 0 ∨ c.now = 1
  top : c.top < 18446744073709551616
  b : c.b.length ≤ 255
theorem ci_look {n : Nat} {c : Ce} (h : CI n c) (i : Nat) (hi : i < 2) (l : List UInt8) : CI n (lookC c i l) := by
  have ht : topC c l < 18446744073709551616 := by
    have h1 := num8_lt l
    have h2 := num8_lt (l.drop 56)
    have h3 := h.top
    unfold topC
    omega
  unfold lookC
  split
  · refine ⟨h.at_, ?_, ht, ?_⟩
    · show (i : Int) = -1 ∨ (i : Int) = 0 ∨ (i : Int) = 1
      omega
    · show ((l.drop 9).take (l.getD 8 0).toNat).length ≤ 255
      have := (l.getD 8 0).toNat_lt
      rw [List.length_take]
      omega
  · exact ⟨h.at_, h.now, ht, h.b⟩
theorem ci_zero (n : Nat) : CI n ⟨n, -1, 0, 0, [], 0⟩ := ⟨rfl, .inl rfl, by show 0 < _; omega, by simp⟩
theorem ci_open (n : Nat) (l : List (List UInt8)) : CI n (openL n l) := ci_look (ci_look (ci_zero n) 0 (by omega) _) 1 (by omega) _
theorem ci_set {n : Nat} {c : Ce} (h : CI n c) (D : Dk) (bs : List UInt8) (hb : bs.length ≤ 255) : CI n (c.set D laidL bs).1.1 := by
  unfold NB.Ce.set
  split
  · exact h
  split
  · exact h
  split
  · exact h
  rename_i ht
  have hi2 : (if c.now = 0 then 1 else 0 : Nat) < 2 := by split <;> omega
  simp only
  generalize (if c.now = 0 then 1 else 0 : Nat) = i at *
  split
  · exact ⟨h.at_, h.now, h.top, h.b⟩
  split
  · exact ⟨h.at_, h.now, h.top, h.b⟩
  · refine ⟨h.at_, ?_, ?_, hb⟩
    · show (i : Int) = -1 ∨ (i : Int) = 0 ∨ (i : Int) = 1
      omega
    · show c.top + 1 < _
      have := h.top
      omega
/-- What a Set does to the disk: as many blocks, at most one write more. -/
theorem write_dk (D : Dk) (i : Int) (b : List UInt8) : (D.write i b).1.l.length = D.l.length ∧ (D.write i b).1.waits.length ≤ D.waits.length + 1 := by
  refine ⟨by rw [write_l], ?_⟩
  unfold Dk.write
  split
  · exact Nat.le_succ _
  split
  · exact Nat.le_succ _
  split
  · exact Nat.le_succ _
  · simp
theorem sync_dk (D : Dk) : D.sync.1.l.length = D.l.length ∧ D.sync.1.waits.length ≤ D.waits.length := by
  unfold Dk.sync
  split
  · exact ⟨rfl, Nat.le_refl _⟩
  split
  · exact ⟨rfl, Nat.le_refl _⟩
  · exact ⟨lay_len _ _, Nat.zero_le _⟩
theorem crash_dk (D : Dk) (pick : List UInt8) : (D.crash pick).l.length = D.l.length ∧ Calm (D.crash pick) := ⟨NB.tears_len _ _ _, rfl, rfl, rfl⟩
theorem set_dk (c : Ce) (D : Dk) (bs : List UInt8) : (c.set D laidL bs).1.2.l.length = D.l.length ∧ (c.set D laidL bs).1.2.waits.length ≤ D.waits.length + 1 := by
  unfold NB.Ce.set
  split
  · exact ⟨rfl, Nat.le_succ _⟩
  split
  · exact ⟨rfl, Nat.le_succ _⟩
  split
  · exact ⟨rfl, Nat.le_succ _⟩
  simp only
  generalize (if c.now = 0 then 1 else 0 : Nat) = i at *
  have h1 := write_dk D ((c.at_ + i : Nat) : Int) (laidL (c.top + 1) bs)
  split
  · exact h1
  have h2 := sync_dk (D.write ((c.at_ + i : Nat) : Int) (laidL (c.top + 1) bs)).1
  split
  · exact ⟨h2.1.trans h1.1, Nat.le_trans h2.2 h1.2⟩
  · exact ⟨h2.1.trans h1.1, Nat.le_trans h2.2 h1.2⟩

/-- 'D', 'c': what the program's disk and cell are; 'E', 'm': what the reference's are, in the boxes 'g' and 'h'. -/
structure Pc (w : World) (base q p g h : Nat) (F G : Nat → Prop) (c m : Ce) (D E : Dk) (a1 : Option Addr) (c1 : Nat) (a2 : Option Addr) (c2 : Nat) : Prop where
  cell : HasC w base q p F c
  d : HasD w base p G D
  dis : Dis F G
  ng : ¬ F g ∧ ¬ G g
  nh : ¬ F h ∧ ¬ G h
  gh : g ≠ h
  row : Rw w g [.slice a1 E.l.length c1, .slice a2 E.waits.length c2, .int .i64 E.left, .bool E.down] 49
  rowC : Rw w h (cL m) 53
  ref : RefD w (rdV a1 E.l.length c1 a2 E.waits.length c2 E.left E.down) E
  off : ∀ k, locR (rdV a1 E.l.length c1 a2 E.waits.length c2 E.left E.down) k → ¬ F k ∧ ¬ G k ∧ k ≠ g ∧ k ≠ h
section
variable {w w' : World} {base q p g h : Nat} {F F' G G' : Nat → Prop} {c c' m m' : Ce} {D D' E : Dk} {a1 a2 : Option Addr} {c1 c2 : Nat}
theorem Pc.below (k : Pc w base q p g h F G c m D E a1 c1 a2 c2) (hb : Below w.heap.size w w') : Pc w' base q p g h F G c m D E a1 c1 a2 c2 :=
  ⟨k.cell.below hb, k.d.below hb, k.dis, k.ng, k.nh, k.gh, k.row.below hb, k.rowC.below hb, k.ref.below hb, k.off⟩
theorem Pc.low (k : Pc w base q p g h F G c m D E a1 c1 a2 c2) (j : Nat) (hj : F j ∨ G j) : base ≤ j := hj.elim (fun h => (k.cell.foot j h).1) (fun h => (k.d.foot j h).1)
/-- The program's cell does something. -/
theorem Pc.setC (k : Pc w base q p g h F G c m D E a1 c1 a2 c2) (hC : HasC w' base q p F' c') (hD : HasD w' base p G' D') (hd : Dis F' G') (hs : Stp (fun k => F k ∨ G k) (fun k => F' k ∨ G' k) w w') :
    Pc w' base q p g h F' G' c' m D' E a1 c1 a2 c2 :=
  have hg := k.row.lt
  have hh := k.rowC.lt
  have up : ∀ j, j < w.heap.size → ¬ F j → ¬ G j → ¬ F' j ∧ ¬ G' j := fun j hj h1 h2 =>
    ⟨fun hf => (hs.sub j (.inl hf)).elim (fun h => h.elim h1 h2) (fun h => by omega), fun hf => (hs.sub j (.inr hf)).elim (fun h => h.elim h1 h2) (fun h => by omega)⟩
  ⟨hC, hD, hd, up g hg k.ng.1 k.ng.2, up h hh k.nh.1 k.nh.2, k.gh, k.row.keep hs.kp (fun h => h.elim k.ng.1 k.ng.2), k.rowC.keep hs.kp (fun h => h.elim k.nh.1 k.nh.2),
    k.ref.keep hs.kp (fun j hj => fun h => h.elim (k.off j hj).1 (k.off j hj).2.1),
    fun j hj => by
      have h1 := k.off j hj
      have h2 := up j (k.ref.low j hj) h1.1 h1.2.1
      exact ⟨h2.1, h2.2, h1.2.2⟩⟩
/-- The program's disk does something. -/
theorem Pc.real (k : Pc w base q p g h F G c m D E a1 c1 a2 c2) (hs : Stp G G' w w') (hD : HasD w' base p G' D') : Pc w' base q p g h F G' c m D' E a1 c1 a2 c2 :=
  k.setC (k.cell.keep hs.kp k.dis) hD (k.dis.step (fun j hj => (k.cell.foot j hj).2) hs) (hs.addL F)
/-- Another cell is opened. -/
theorem Pc.newC {q' : Nat} (k : Pc w base q p g h F G c m D E a1 c1 a2 c2) (hb : Below w.heap.size w w') (hC : HasC w' base q' p F' c') (hD : HasD w' base p G D) (hd : Dis F' G) (hf : ∀ j, F' j → w.heap.size ≤ j) :
    Pc w' base q' p g h F' G c' m D E a1 c1 a2 c2 :=
  have up : ∀ j, j < w.heap.size → ¬ F' j := fun j hj h1 => by have := hf j h1; omega
  ⟨hC, hD, hd, ⟨up g k.row.lt, k.ng.2⟩, ⟨up h k.rowC.lt, k.nh.2⟩, k.gh, k.row.below hb, k.rowC.below hb, k.ref.below hb, fun j hj => ⟨up j (k.ref.low j hj), (k.off j hj).2⟩⟩
/-- The reference's disk is laid into its box. -/
theorem Pc.put (k : Pc w base q p g h F G c m D E a1 c1 a2 c2) (hb : Below w.heap.size w w') {v' : Value} (hr : RefD w' v' D) (hl : ∀ k, locR v' k → locR (rdV a1 E.l.length c1 a2 E.waits.length c2 E.left E.down) k ∨ w.heap.size ≤ k) :
    ∃ b1 d1 b2 d2, v' = rdV b1 D.l.length d1 b2 D.waits.length d2 D.left D.down ∧
      Pc ((((w'.setCell ⟨g, 0, none⟩ (.slice b1 D.l.length d1)).setCell ⟨g, 1, none⟩ (.slice b2 D.waits.length d2)).setCell ⟨g, 2, none⟩ (.int .i64 D.left)).setCell ⟨g, 3, none⟩ (.bool D.down)) base q p g h F G c m D D b1 d1 b2 d2 := by
  have hr0 := hr
  obtain ⟨b1, d1, b2, d2, rfl, _, _⟩ := hr0
  refine ⟨b1, d1, b2, d2, rfl, ?_⟩
  have hoff : ∀ j, locR (rdV b1 D.l.length d1 b2 D.waits.length d2 D.left D.down) j → ¬ F j ∧ ¬ G j ∧ j ≠ g ∧ j ≠ h := fun j hj => by
    rcases hl j hj with h1 | h1
    · exact k.off j h1
    · exact ⟨fun hf => by have := (k.cell.foot j hf).2; omega, fun hf => by have := (k.d.foot j hf).2; omega, fun e => by have := k.row.lt; omega, fun e => by have := k.rowC.lt; omega⟩
  have K : Kp (fun k => k = g) w' ((((w'.setCell ⟨g, 0, none⟩ (.slice b1 D.l.length d1)).setCell ⟨g, 1, none⟩ (.slice b2 D.waits.length d2)).setCell ⟨g, 2, none⟩ (.int .i64 D.left)).setCell ⟨g, 3, none⟩ (.bool D.down)) :=
    ((((Kp.refl (fun k => k = g) w').setCell (x := ⟨g, 0, none⟩) (.inl rfl) _).setCell (x := ⟨g, 1, none⟩) (.inl rfl) _).setCell (x := ⟨g, 2, none⟩) (.inl rfl) _).setCell (x := ⟨g, 3, none⟩) (.inl rfl) _
  exact ⟨(k.cell.below hb).keep K (fun j hf e => k.ng.1 (e ▸ hf)), (k.d.below hb).keep K (fun j hf e => k.ng.2 (e ▸ hf)), k.dis, k.ng, k.nh, k.gh, ((((k.row.below hb).set 0 _).set 1 _).set 2 _).set 3 _,
    (k.rowC.below hb).keep K (fun e => k.gh e.symm), hr.keep K (fun j hj => (hoff j hj).2.2.1), hoff⟩
/-- The reference's cell is laid into its box. -/
theorem Pc.putC (k : Pc w base q p g h F G c m D E a1 c1 a2 c2) (m' : Ce) :
    Pc ((((((w.setCell ⟨h, 0, none⟩ (.int .i64 (m'.at_ : Int))).setCell ⟨h, 1, none⟩ (.int .i64 m'.now)).setCell ⟨h, 2, none⟩ (.int .u64 (m'.turn : Int))).setCell ⟨h, 3, none⟩ (.int .u64 (m'.top : Int))).setCell ⟨h, 4, none⟩ (.string ⟨m'.b.toArray⟩)).setCell ⟨h, 5, none⟩ (.int .i64 m'.e)) base q p g h F G c m' D E a1 c1 a2 c2 := by
  have K : Kp (fun k => k = h) w ((((((w.setCell ⟨h, 0, none⟩ (.int .i64 (m'.at_ : Int))).setCell ⟨h, 1, none⟩ (.int .i64 m'.now)).setCell ⟨h, 2, none⟩ (.int .u64 (m'.turn : Int))).setCell ⟨h, 3, none⟩ (.int .u64 (m'.top : Int))).setCell ⟨h, 4, none⟩ (.string ⟨m'.b.toArray⟩)).setCell ⟨h, 5, none⟩ (.int .i64 m'.e)) :=
    ((((((Kp.refl (fun k => k = h) w).setCell (x := ⟨h, 0, none⟩) (.inl rfl) _).setCell (x := ⟨h, 1, none⟩) (.inl rfl) _).setCell (x := ⟨h, 2, none⟩) (.inl rfl) _).setCell (x := ⟨h, 3, none⟩) (.inl rfl) _).setCell (x := ⟨h, 4, none⟩) (.inl rfl) _).setCell (x := ⟨h, 5, none⟩) (.inl rfl) _
  exact ⟨k.cell.keep K (fun j hf e => k.nh.1 (e ▸ hf)), k.d.keep K (fun j hf e => k.nh.2 (e ▸ hf)), k.dis, k.ng, k.nh, k.gh, k.row.keep K (fun e => k.gh e),
    (((((k.rowC.set 0 _).set 1 _).set 2 _).set 3 _).set 4 _).set 5 _, k.ref.keep K (fun j hj => (k.off j hj).2.2.2), k.off⟩
end
theorem HasD.facts {w : World} {base p : Nat} {F : Nat → Prop} {D : Dk} (h : HasD w base p F D) : (-1 ≤ D.left ∧ D.left ≤ 9223372036854775807) ∧ D.l.length ≤ 65536 := by
  obtain ⟨bl, vW, h, _⟩ := h
  exact ⟨h.left, h.n⟩
end Go.Proofs.Ytcdapjfaekamkaa
