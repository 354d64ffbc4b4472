/- The cell: how it lies in memory; its Get and Turn, walked. -/
import Derived.Test.YtcdapjfaekamkaaCelc
import Derived.Test.YtcdapjfaekamkaaDska
namespace Go.NB
open Go Go.RowKit
structure Ce where
  at_ : Nat
  now : Int
  turn : Nat
  top : Nat
  b : List UInt8
  e : Int
def Ce.row (p : Nat) (v : Value) (c : Ce) : Array Value := #[.pointer (some ⟨p, 0, none⟩), .int .i64 (c.at_ : Int), .int .i64 c.now, .int .u64 (c.turn : Int), .int .u64 (c.top : Int), v, .int .i64 c.e]
structure IsCell (tC tB : TypeId) (w : World) (base q p : Nat) (v : Value) (c : Ce) : Prop where
  hp : w.heap[q]? = some (.cells (c.row p v) tC (0, 0))
  hv : w.ownsRow base tB 1 v c.b.length (c.b.map u8v)
  bq : base ≤ q
  nv : v.ownBlock ≠ some q
def footC (q : Nat) (v : Value) (k : Nat) : Prop := k = q ∨ v.ownBlock = some k
section
variable {tC tB : TypeId} {w w' : World} {base q p : Nat} {v : Value} {c : Ce}
theorem IsCell.lt (h : IsCell tC tB w base q p v c) : q < w.heap.size := (Array.getElem?_eq_some_iff.1 h.hp).1
theorem IsCell.foot (h : IsCell tC tB w base q p v c) (k : Nat) (hk : footC q v k) : base ≤ k ∧ k < w.heap.size := by
  rcases hk with rfl | hk
  · exact ⟨h.bq, h.lt⟩
  · exact h.hv.lt k hk
theorem IsCell.keep {G : Nat → Prop} (h : IsCell tC tB w base q p v c) (hk : Kp G w w') (hG : Dis (footC q v) G) : IsCell tC tB w' base q p v c :=
  ⟨(hk.block q h.lt (hG q (.inl rfl))).trans h.hp, hk.own h.hv (fun k e => hG k (.inr e)), h.bq, h.nv⟩
theorem IsCell.below (h : IsCell tC tB w base q p v c) (hb : Below w.heap.size w w') : IsCell tC tB w' base q p v c := h.keep (G := fun _ => False) (Kp.of_below hb) (fun _ _ h => h)
theorem IsCell.cell (h : IsCell tC tB w base q p v c) (j : Nat) (u : Value) (hj : (c.row p v)[j]? = some u) : w.cell? ⟨q, j, none⟩ = some u := by
  rw [cell_of_row w q j _ tC (0, 0) h.hp]; exact hj
theorem IsCell.free (h : IsCell tC tB w base q p v c) (j : Nat) : w.frozen? ⟨q, j, none⟩ = false := frozen_of_row w q j _ tC h.hp
theorem IsCell.base_le (h : IsCell tC tB w base q p v c) : base ≤ w.heap.size := by
  have := h.lt; have := h.bq; omega
theorem IsCell.mono {base' : Nat} (h : IsCell tC tB w base q p v c) (hb : base' ≤ base) : IsCell tC tB w base' q p v c :=
  ⟨h.hp, own_mono h.hv hb, Nat.le_trans hb h.bq, h.nv⟩
end
end Go.NB
namespace Go.Proofs.Ytcdapjfaekamkaa
open Go.RowKit
open Go.NB (Rd Dk Kp Stp Off Dis val Ce footC)
abbrev IsC := NB.IsCell 72 5
def HasC (w : World) (base q p : Nat) (F : Nat → Prop) (c : Ce) : Prop := ∃ v, IsC w base q p v c ∧ F = footC q v
section
variable {w w' : World} {base q p : Nat} {F F' : Nat → Prop} {c : Ce}
theorem HasC.foot (h : HasC w base q p F c) (k : Nat) (hk : F k) : base ≤ k ∧ k < w.heap.size := by
  obtain ⟨v, h, rfl⟩ := h
  exact h.foot k hk
theorem HasC.keep {G : Nat → Prop} (h : HasC w base q p F c) (hk : Kp G w w') (hG : Dis F G) : HasC w' base q p F c := by
  obtain ⟨v, h, rfl⟩ := h
  exact ⟨v, h.keep hk hG, rfl⟩
theorem HasC.below (h : HasC w base q p F c) (hb : Below w.heap.size w w') : HasC w' base q p F c := h.keep (G := fun _ => False) (Kp.of_below hb) (fun _ _ h => h)
theorem HasC.base_le (h : HasC w base q p F c) : base ≤ w.heap.size := by
  obtain ⟨v, h, rfl⟩ := h
  exact h.base_le
theorem HasC.mono {base' : Nat} (h : HasC w base q p F c) (hb : base' ≤ base) : HasC w base' q p F c := by
  obtain ⟨v, h, rfl⟩ := h
  exact ⟨v, h.mono hb, rfl⟩
end

theorem turn_nil (w : World) : Calls Try.prog 12 #[.pointer none] w fun e w' => e = .returned (.int .u64 0) ∧ w' = w := by
  go_enter Try.func12, Try.ntmps12
  go_wp2
  go_ret
  exact ⟨rfl, rfl⟩
theorem turn_any (w : World) (base q p : Nat) (F : Nat → Prop) (c : Ce) (h : HasC w base q p F c) :
    Calls Try.prog 12 #[.pointer (some ⟨q, 0, none⟩)] w fun e w' => e = .returned (.int .u64 (c.turn : Int)) ∧ w' = w := by
  obtain ⟨v, h, rfl⟩ := h
  have c3 := h.cell 3 _ rfl
  go_enter Try.func12, Try.ntmps12
  go_wp2_with fail
  go_ret
  exact ⟨rfl, rfl⟩
theorem get_nil (w : World) : Calls Try.prog 13 #[.pointer none] w fun e w' => e = .returned (.slice none 0 0) ∧ w' = w := by
  go_enter Try.func13, Try.ntmps13
  go_wp2
  go_ret
  exact ⟨rfl, rfl⟩
theorem get_any (w : World) (base q p : Nat) (F : Nat → Prop) (c : Ce) (h : HasC w base q p F c) (hl : c.b.length ≤ 140737488355328) :
    Calls Try.prog 13 #[.pointer (some ⟨q, 0, none⟩)] w (NB.FreshB 5 w c.b) := by
  obtain ⟨v, h, rfl⟩ := h
  obtain ⟨a, cp, rfl, hr, _⟩ := NB.rd_of_own h.hv
  have c5 := h.cell 5 _ rfl
  go_enter Try.func13, Try.ntmps13
  go_wp2_with (first
    | (go_at_call 31; refine (clone_any w a _ cp c.b hr hl).mono ?_; rintro e w2 ⟨a2, c2, rfl, ho2, hb2⟩))
  go_ret
  exact ⟨a2, c2, rfl, ho2, hb2⟩
end Go.Proofs.Ytcdapjfaekamkaa
