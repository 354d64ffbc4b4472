/- Nre, Nrf, Nrg, Nrh, Rsa, Fre, as one text. -/
import Derived.Test.YtadgokegjmigoaaDoorNum
import Derived.Test.YtadgokegjmigoaaDoorRows
import Derived.Test.YtadgokegjmigoaaDoorAny
import Derived.Test.YtadgokegjmigoaaDoorSlc
import Derived.Test.YtadgokegjmigoaaDoorNump
import Derived.Test.YtadgokegjmigoaaDoorSum
import Derived.Test.YtadgokegjmigoaaDoorFrb
import Derived.Test.YtadgokegjmigoaaDoorTee
namespace Go.Proofs.YtadgokegjmigoaaDoor
open Go.RowKit
open Go.NB (Rd digs encU encB)

/-- A string in whatever later world. -/
def StrB (w : World) (bs : List UInt8) (e : Ending) (w' : World) : Prop := e = .returned (.string ⟨bs.toArray⟩) ∧ Below w.heap.size w w'

set_option maxHeartbeats 1000000 in
theorem digits_any (n : Nat) : ∀ (x : Nat) (w : World), x < n → x < 18446744073709551616 → Calls Tryd.prog 46 #[.int .u64 (x : Int)] w (StrB w (digs x)) := by
  induction n with
  | zero => intro x w h; omega
  | succ n ih =>
    intro x w hn hx
    by_cases h0 : x = 0
    · subst h0
      have hz : (((0 : Nat) : Int) == 0) = true := rfl
      rw [NB.digs_zero]
      go_enter Tryd.func46, Tryd.ntmps46
      go_wp2_with fail
      go_ret
      exact ⟨rfl, Below.refl _ _⟩
    · have hz : ((x : Int) == 0) = false := by simp [h0]
      have hd := NB.digs_pos x h0
      have HD := Go.Lib.hid hd; clear hd
      have IH := Go.Lib.hid ih; clear ih
      have h1 : IntKind.u64.wrap ((x : Int) / 256) = ((x / 256 : Nat) : Int) := by rw [IntKind.wrap_u64]; omega
      have h2 : (x : Int).tmod 256 = ((x % 256 : Nat) : Int) := by rw [Int.tmod_eq_emod_of_nonneg (by omega)]; omega
      have h3 : IntKind.u8.wrap ((x % 256 : Nat) : Int) = ((UInt8.ofNat (x % 256)).toNat : Int) := by rw [IntKind.wrap_u8, UInt8.toNat_ofNat']; omega
      have hq : x / 256 < n := by omega
      have hq2 : x / 256 < 18446744073709551616 := by omega
      generalize hc : UInt8.ofNat (x % 256) = c at *
      generalize x / 256 = q at *
      generalize x % 256 = r at *
      clear hn h0 hx hc
      go_enter Tryd.func46, Tryd.ntmps46
      go_wp2_with fail
      refine NB.wp_region_m (by kernel_rfl) ?_
      have hB := (Below.refl w.heap.size w).drew
      generalize w.drew = v at *
      refine NB.any_p 0 rfl (by kernel_rfl) (fun K hK => ?_); go_simp; refine hK _ ?_; clear hK K
      refine NB.any_p 1 rfl (by kernel_rfl) (fun K hK => ?_); go_simp; refine hK _ ?_; clear hK K
      refine NB.any_p 3 rfl (by kernel_rfl) (fun K hK => ?_); go_simp; refine hK _ ?_; clear hK K
      refine NB.any_p 4 rfl (by kernel_rfl) (fun K hK => ?_); go_simp; refine hK _ ?_; clear hK K
      refine NB.any_p 5 rfl (by kernel_rfl) (fun K hK => ?_); go_simp; refine hK _ ?_; clear hK K
      clear h1 h2 h3
      have k1 : (1 : Nat) ≤ maxLen := by unfold maxLen; omega
      have h8 := NB.digs_le8 hq2
      have hsl : ¬ 9223372036854775807 < (digs q).length + 1 := by omega
      refine NB.any_e2 2 6 rfl rfl (by kernel_rfl) (fun K hK => ?_) (fun K hK => ?_)
      · unfold NB.moves
        go_simp
        refine (IH.out q v hq hq2).mono ?_
        rintro e w1 ⟨rfl, hb1⟩
        refine ⟨_, rfl, hb1, hK _ _ ?_⟩
        clear hK K
        refine NB.any_e 6 rfl (by kernel_rfl) (fun K hK => ?_); unfold NB.moves; go_simp; refine ⟨(Below.refl _ _).alloc (Nat.le_refl _) _, hK _ _ ?_⟩; clear hK K
        have r1 : NB.RdB (w1.alloc (.cells #[.int .u8 (c.toNat : Int)] 5)) (some ⟨w1.heap.size, 0, none⟩) 1 1 [c] := NB.rdB_lit (n := 1) [c] rfl rfl k1 rfl
        have B1 := hB.trans (hb1.mono hB.size)
        have B2 := B1.alloc B1.size (.cells #[.int .u8 (c.toNat : Int)] 5)
        refine NB.any_r 7 rfl (by kernel_rfl) rfl _ (fun w' hw' => NB.run_op_conv_str Tryd.underlying22 Tryd.underlying5 Tryd.underlying9 rfl rfl (Rd.below r1 hw')) (fun K hK => ?_); go_simp; refine hK _ ?_; clear hK K
        refine NB.any_p 8 rfl (by kernel_rfl) (fun K hK => ?_); go_simp; refine hK _ ?_; clear hK K
        refine NB.any_p 9 rfl (by kernel_rfl) (fun K hK => ?_); go_simp; refine hK _ ?_; clear hK K
        refine NB.any_end (by kernel_rfl) ?_
        go_wp2_with fail
        go_ret
        exact ⟨by rw [HD.out]; simp, B2⟩
      · unfold NB.moves
        go_simp
        refine ⟨(Below.refl _ _).alloc (Nat.le_refl _) _, hK _ _ ?_⟩
        clear hK K
        have r1 : NB.RdB (v.alloc (.cells #[.int .u8 (c.toNat : Int)] 5)) (some ⟨v.heap.size, 0, none⟩) 1 1 [c] := NB.rdB_lit (n := 1) [c] rfl rfl k1 rfl
        have B1 := hB.alloc hB.size (.cells #[.int .u8 (c.toNat : Int)] 5)
        refine NB.any_r 7 rfl (by kernel_rfl) rfl _ (fun w' hw' => NB.run_op_conv_str Tryd.underlying22 Tryd.underlying5 Tryd.underlying9 rfl rfl (Rd.below r1 hw')) (fun K hK => ?_); go_simp; refine hK _ ?_; clear hK K
        refine NB.any_e 2 rfl (by kernel_rfl) (fun K hK => ?_); unfold NB.moves; go_simp; refine (IH.out q _ hq hq2).mono ?_; rintro e w1 ⟨rfl, hb1⟩; refine ⟨_, rfl, (by simpa using hb1), hK _ _ ?_⟩; clear hK K
        have B2 := B1.trans (hb1.mono B1.size)
        refine NB.any_p 8 rfl (by kernel_rfl) (fun K hK => ?_); go_simp; refine hK _ ?_; clear hK K
        refine NB.any_p 9 rfl (by kernel_rfl) (fun K hK => ?_); go_simp; refine hK _ ?_; clear hK K
        refine NB.any_end (by kernel_rfl) ?_
        go_wp2_with fail
        go_ret
        exact ⟨by rw [HD.out]; simp, B2⟩

set_option maxHeartbeats 1000000 in
theorem ruintR_any (w : World) (x : Nat) (hx : x < 18446744073709551616) : Calls Tryd.prog 21 #[.int .u64 (x : Int)] w (StrB w (encU x)) := by
  have h8 := NB.digs_le8 hx
  have hE : encU x = [UInt8.ofNat (digs x).length] ++ digs x := rfl
  have HE := Go.Lib.hid hE; clear hE
  have h3 : IntKind.u8.wrap ((digs x).length : Int) = ((UInt8.ofNat (digs x).length).toNat : Int) := by rw [IntKind.wrap_u8, UInt8.toNat_ofNat']; omega
  have h4 : ((UInt8.ofNat (digs x).length).toNat : Int) = ((digs x).length : Int) := by rw [UInt8.toNat_ofNat']; omega
  have H4 := Go.Lib.hid h4; clear h3 h4
  have k1 : (1 : Nat) ≤ maxLen := by unfold maxLen; omega
  go_enter Tryd.func21, Tryd.ntmps21
  go_wp2_with (first
    | (go_at_call 46; refine (digits_any (x + 1) x _ (by omega) hx).mono ?_; rintro e w1 ⟨rfl, hb1⟩)
    | (refine NB.wpList_conv_str rfl 22 9 (.tmp 9) rfl Tryd.underlying22 Tryd.underlying5 Tryd.underlying9 (some ⟨w1.heap.size, 0, none⟩) 1 1 [UInt8.ofNat (digs x).length] rfl (NB.rdB_lit (n := 1) [UInt8.ofNat (digs x).length] (by rw [List.map_cons, List.map_nil, NB.u8v, H4.out]) rfl k1 rfl) ?_))
  go_ret
  exact ⟨by rw [HE.out]; simp, hb1.alloc hb1.size _⟩

end Go.Proofs.YtadgokegjmigoaaDoor
namespace Go.Proofs.YtadgokegjmigoaaDoor
open Go.RowKit
open Go.NB (Rd digs encU encB Rr val)

/-- A reader of the reference. -/
def refR (r : Rr) : Value := .agg #[.string ⟨r.b.toArray⟩, .int .i64 r.e]
def RefRS (w : World) (r : Rr × List UInt8) (e : Ending) (w' : World) : Prop := e = .returned (.tuple #[.agg #[.string ⟨r.1.b.toArray⟩, .int .i64 r.1.e], .string ⟨r.2.toArray⟩]) ∧ Below w.heap.size w w'
def RefRU (w : World) (r : Rr × Nat) (e : Ending) (w' : World) : Prop := e = .returned (.tuple #[.agg #[.string ⟨r.1.b.toArray⟩, .int .i64 r.1.e], .int .u64 (r.2 : Int)]) ∧ Below w.heap.size w w'

theorem bcell {W w1 : World} (hb : Below W.heap.size W w1) : (∀ b o, b < W.heap.size → w1.cell? ⟨b, o, none⟩ = W.cell? ⟨b, o, none⟩) ∧ (∀ b o, b < W.heap.size → w1.frozen? ⟨b, o, none⟩ = W.frozen? ⟨b, o, none⟩) :=
  ⟨fun b o h => hb.cell (p := ⟨b, o, none⟩) h, fun b o h => hb.frozen (p := ⟨b, o, none⟩) h⟩
theorem two_rows {w w1 : World} {a b c d : Value} {t t' : TypeId} (hb : Below ((w.alloc (.cells #[a, b] t)).alloc (.cells #[c, d] t')).heap.size ((w.alloc (.cells #[a, b] t)).alloc (.cells #[c, d] t')) w1) :
    w1.heap[w.heap.size]? = some (.cells #[a, b] t (0, 0)) ∧ w1.heap[w.heap.size + 1]? = some (.cells #[c, d] t' (0, 0)) := by
  refine ⟨?_, ?_⟩
  · rw [hb.block _ (by simp; omega), Below.heap_alloc _ _ _ (by simp)]
    exact heap_alloc_new w _
  · rw [hb.block _ (by simp)]
    have := heap_alloc_new (w.alloc (.cells #[a, b] t)) (.cells #[c, d] t')
    simpa using this
/-- A row of two cells. -/
structure Row2 (w : World) (g : Nat) (a b : Value) (t : TypeId) : Prop where
  c0 : w.cell? ⟨g, 0, none⟩ = some a
  c1 : w.cell? ⟨g, 1, none⟩ = some b
  f0 : w.frozen? ⟨g, 0, none⟩ = false
  f1 : w.frozen? ⟨g, 1, none⟩ = false
  lt : g < w.heap.size
  row : w.heap[g]? = some (.cells #[a, b] t (0, 0))
theorem row2 {w : World} {g : Nat} {a b : Value} {t : TypeId} (h : w.heap[g]? = some (.cells #[a, b] t (0, 0))) : Row2 w g a b t :=
  ⟨by rw [cell_of_row _ _ _ _ _ _ h]; rfl, by rw [cell_of_row _ _ _ _ _ _ h]; rfl, frozen_of_row _ _ _ _ _ h, frozen_of_row _ _ _ _ _ h, (Array.getElem?_eq_some_iff.1 h).1, h⟩
theorem Row2.set {w : World} {g : Nat} {a b : Value} {t : TypeId} (h : Row2 w g a b t) (x y : Value) : Row2 ((w.setCell ⟨g, 0, none⟩ x).setCell ⟨g, 1, none⟩ y) g x y t := by
  have h1 := heap_setCell_same w g 0 _ t x h.row
  exact row2 (by rw [heap_setCell_same _ g 1 _ t y h1]; rfl)
theorem Row2.set1 {w : World} {g : Nat} {a b : Value} {t : TypeId} (h : Row2 w g a b t) (y : Value) : Row2 (w.setCell ⟨g, 1, none⟩ y) g a y t :=
  row2 (by rw [heap_setCell_same w g 1 _ t y h.row]; rfl)
theorem Row2.other {w : World} {g g' : Nat} {a b : Value} {t : TypeId} (h : Row2 w g a b t) (hg : g ≠ g') (j : Nat) (x : Value) : Row2 (w.setCell ⟨g', j, none⟩ x) g a b t :=
  row2 (by rw [heap_setCell_other w _ _ _ hg]; exact h.row)
theorem Row2.below {w w' : World} {g : Nat} {a b : Value} {t : TypeId} (h : Row2 w g a b t) (hb : Below w.heap.size w w') : Row2 w' g a b t :=
  row2 (by rw [hb.block g h.lt]; exact h.row)

theorem two_cells {w w1 : World} {a b c d : Value} {t t' : TypeId} (hb : Below ((w.alloc (.cells #[a, b] t)).alloc (.cells #[c, d] t')).heap.size ((w.alloc (.cells #[a, b] t)).alloc (.cells #[c, d] t')) w1) :
    w1.cell? ⟨w.heap.size, 0, none⟩ = some a ∧ w1.cell? ⟨w.heap.size, 1, none⟩ = some b ∧ w1.cell? ⟨w.heap.size + 1, 0, none⟩ = some c ∧ w1.cell? ⟨w.heap.size + 1, 1, none⟩ = some d ∧
    w1.frozen? ⟨w.heap.size, 0, none⟩ = false ∧ w1.frozen? ⟨w.heap.size, 1, none⟩ = false ∧ w1.frozen? ⟨w.heap.size + 1, 0, none⟩ = false ∧ w1.frozen? ⟨w.heap.size + 1, 1, none⟩ = false ∧ w.heap.size + 2 ≤ w1.heap.size := by
  have h1 : w1.heap[w.heap.size]? = some (.cells #[a, b] t (0, 0)) := by
    rw [hb.block _ (by simp; omega), Below.heap_alloc _ _ _ (by simp)]
    exact heap_alloc_new w _
  have h2 : w1.heap[w.heap.size + 1]? = some (.cells #[c, d] t' (0, 0)) := by
    rw [hb.block _ (by simp)]
    have := heap_alloc_new (w.alloc (.cells #[a, b] t)) (.cells #[c, d] t')
    simpa using this
  refine ⟨?_, ?_, ?_, ?_, frozen_of_row _ _ _ _ _ h1, frozen_of_row _ _ _ _ _ h1, frozen_of_row _ _ _ _ _ h2, frozen_of_row _ _ _ _ _ h2, by have := hb.size; simp at this; omega⟩
  · rw [cell_of_row _ _ _ _ _ _ h1]; rfl
  · rw [cell_of_row _ _ _ _ _ _ h1]; rfl
  · rw [cell_of_row _ _ _ _ _ _ h2]; rfl
  · rw [cell_of_row _ _ _ _ _ _ h2]; rfl
theorem below2 (w : World) (o o' : Obj) : Below w.heap.size w ((w.alloc o).alloc o') := ((Below.refl _ _).alloc (Nat.le_refl _) _).alloc (by simp) _

set_option maxHeartbeats 1000000 in
theorem refRaw_any (w : World) (r : Rr) (n : Int) (hn : n ≤ 9223372036854775807) (hl : r.b.length ≤ 100000000) :
    Calls Tryd.prog 66 #[refR r, .int .i64 n] w (RefRS w (r.raw n)) := by
  by_cases he : r.e = 0
  · obtain ⟨b, e⟩ := r
    simp only at he hl
    subst he
    by_cases h0 : n < 0
    · have hq : Rr.raw ⟨b, 0⟩ n = (⟨b, 1⟩, []) := by simp only [Rr.raw, h0, if_true, Rr.fail_ok]
      rw [hq]
      unfold refR
      go_enter Tryd.func66, Tryd.ntmps66
      go_wp2
      exact bodyPost_ret (v := .tuple #[.agg #[.string ⟨b.toArray⟩, .int .i64 1], .string ⟨([] : List UInt8).toArray⟩]) (by simp [results, Tryd.results66, go_sem]) rfl ⟨rfl, below2 _ _ _⟩
    · obtain ⟨m, rfl⟩ := Int.eq_ofNat_of_zero_le (show 0 ≤ n by omega)
      by_cases h1 : b.length < m
      · have hq : Rr.raw ⟨b, 0⟩ (m : Int) = (⟨b, 10⟩, []) := by simp only [Rr.raw, h0, if_false, Int.toNat_natCast, Rr.take_short h1]
        rw [hq]
        unfold refR
        go_enter Tryd.func66, Tryd.ntmps66
        go_wp2
        exact bodyPost_ret (v := .tuple #[.agg #[.string ⟨b.toArray⟩, .int .i64 10], .string ⟨([] : List UInt8).toArray⟩]) (by simp [results, Tryd.results66, go_sem]) rfl ⟨rfl, below2 _ _ _⟩
      · have hq : Rr.raw ⟨b, 0⟩ (m : Int) = (⟨b.drop m, 0⟩, b.take m) := by simp only [Rr.raw, h0, if_false, Int.toNat_natCast, Rr.take_ok (Nat.not_lt.1 h1)]
        rw [hq]
        unfold refR
        have h2 : m ≤ b.length := by omega
        go_enter Tryd.func66, Tryd.ntmps66
        go_wp2
        exact bodyPost_ret (v := .tuple #[.agg #[.string ⟨(b.drop m).toArray⟩, .int .i64 0], .string ⟨(b.take m).toArray⟩]) (by simp [results, Tryd.results66, go_sem]) rfl ⟨rfl, below2 _ _ _⟩
  · have hq := Rr.raw_err he n
    have he' : (r.e != 0) = true := by simp [he]
    rw [hq]
    unfold refR
    clear he
    go_enter Tryd.func66, Tryd.ntmps66
    go_wp2
    exact bodyPost_ret (v := .tuple #[.agg #[.string ⟨r.b.toArray⟩, .int .i64 r.e], .string ⟨([] : List UInt8).toArray⟩]) (by simp [results, Tryd.results66, go_sem]) rfl ⟨rfl, below2 _ _ _⟩

set_option maxHeartbeats 1000000 in
theorem refEnd_any (w : World) (r : Rr) : Calls Tryd.prog 31 #[refR r] w fun e w' => e = .returned (.int .i64 r.fin) ∧ Below w.heap.size w w' := by
  have B := (Below.refl w.heap.size w).alloc (Nat.le_refl _) (.cells #[.string ⟨r.b.toArray⟩, .int .i64 r.e] 74)
  by_cases he : r.e = 0
  · have he' : (r.e == 0) = true := by simp [he]
    cases hb : r.b with
    | nil =>
      have hq : r.fin = r.e := by simp [Rr.fin, he, hb]
      rw [hq]
      rw [hb] at B
      unfold refR
      rw [hb]
      clear he
      go_enter Tryd.func31, Tryd.ntmps31
      go_wp2
      go_ret
      exact ⟨rfl, B⟩
    | cons y l =>
      have hq : r.fin = 12 := by simp [Rr.fin, he, hb]
      rw [hq]
      rw [hb] at B
      unfold refR
      rw [hb]
      clear he
      go_enter Tryd.func31, Tryd.ntmps31
      go_wp2
      go_ret
      exact ⟨rfl, B⟩
  · have he' : (r.e == 0) = false := by simp [he]
    have hq : r.fin = r.e := by simp [Rr.fin, he]
    rw [hq]
    unfold refR
    clear he
    go_enter Tryd.func31, Tryd.ntmps31
    go_wp2
    go_ret
    exact ⟨rfl, B⟩
end Go.Proofs.YtadgokegjmigoaaDoor
namespace Go.Proofs.YtadgokegjmigoaaDoor
open Go.RowKit
open Go.NB (Rd digs encU encB Rr val)

set_option maxHeartbeats 2000000 in
theorem refRead_go (w : World) (y : UInt8) (b : List UInt8) (h8 : ¬ 8 < y.toNat) (hl : (y :: b).length ≤ 100000000) :
    Calls Tryd.prog 55 #[refR ⟨y :: b, 0⟩] w (RefRU w (Rr.uint ⟨y :: b, 0⟩)) := by
  have hyy : ∀ h, (ByteArray.mk #[y])[0]'h = y := fun _ => rfl
  have hr : Rr.raw ⟨y :: b, 0⟩ 1 = (⟨b, 0⟩, [y]) := by simp [Rr.raw, Rr.take]
  have c1 := refRaw_any ((w.alloc (.cells #[.string ⟨(y :: b : List UInt8).toArray⟩, .int .i64 0] 74)).alloc (.cells #[.string ⟨([] : List UInt8).toArray⟩, .int .i64 0] 74)) ⟨y :: b, 0⟩ 1 (by omega) hl
  rw [hr] at c1
  have hu := Rr.uint_step y b
  rw [if_neg h8] at hu
  have HU := Go.Lib.hid hu; clear hu
  generalize Rr.uint ⟨y :: b, 0⟩ = U at *
  have h8' : ¬ (8 : Int) < (y.toNat : Int) := by omega
  unfold refR at *
  go_enter Tryd.func55, Tryd.ntmps55
  go_wp2_with fail
  refine c1.mono ?_
  rintro e w1 ⟨rfl, hb1⟩
  obtain ⟨d0, d1, d2, d3, f0, f1, f2, f3, hz⟩ := two_cells hb1
  have B1 := (below2 w _ _).trans (hb1.mono (by simp; omega))
  obtain ⟨hr1, hr2⟩ := two_rows hb1
  have R1 := (row2 hr1).set (.string ⟨b.toArray⟩) (.int .i64 0)
  have R2 := ((row2 hr2).other (g' := w.heap.size) (by omega) 0 (.string ⟨b.toArray⟩)).other (g' := w.heap.size) (by omega) 1 (.int .i64 0)
  have BV : Below w.heap.size w ((w1.setCell ⟨w.heap.size, 0, none⟩ (.string ⟨b.toArray⟩)).setCell ⟨w.heap.size, 1, none⟩ (.int .i64 0)) := (B1.setCell (by simp) _).setCell (by simp) _
  go_wp2_with fail
  refine NB.wp_region_t [8] (by kernel_rfl) ?_
  generalize ((w1.setCell ⟨w.heap.size, 0, none⟩ (.string ⟨b.toArray⟩)).setCell ⟨w.heap.size, 1, none⟩ (.int .i64 0)) = v0 at *
  have R1v := R1.below (Below.refl _ v0).drew
  have R2v := R2.below (Below.refl _ v0).drew
  have Bv := BV.drew
  clear R1 R2 BV hb1 hr1 hr2 d0 d1 d2 d3 f0 f1 f2 f3 hz B1 c1
  generalize v0.drew = v at *
  have hraw : Rr.raw ⟨b, 0⟩ (y.toNat : Int) = Rr.take ⟨b, 0⟩ y.toNat := by simp only [Rr.raw]; rw [if_neg (by omega), Int.toNat_natCast]
  have hlb : b.length ≤ 100000000 := by simp at hl; omega
  have c2 := refRaw_any v ⟨b, 0⟩ (y.toNat : Int) (by have := y.toNat_lt; omega) hlb
  rw [hraw] at c2
  unfold refR at c2
  have hsl := NB.Rr.take_len ⟨b, 0⟩ y.toNat
  have hcs : (Rr.take ⟨b, 0⟩ y.toNat).1.e = 0 ∨ ((Rr.take ⟨b, 0⟩ y.toNat).1.e = 10 ∧ (Rr.take ⟨b, 0⟩ y.toNat).2 = []) := by
    unfold Rr.take
    simp only [ne_eq, not_true_eq_false, if_false]
    split
    · exact .inr ⟨rfl, rfl⟩
    · exact .inl rfl
  generalize hs : Rr.take ⟨b, 0⟩ y.toNat = s at *
  have hwy : IntKind.i64.wrap (y.toNat : Int) = (y.toNat : Int) := IntWalk.i64_in _ (by have := y.toNat_lt; omega)
  have HR := Go.Lib.hid hr; clear hr hraw hs hlb hl
  refine NB.t_r 0 [4, 5, 6, 7, 8, 9] rfl (by kernel_rfl) (by kernel_rfl) rfl _ (fun w' hw' => NB.run_op_load_agg rfl rfl Tryd.underlying74 rfl 74 #[.string ⟨b.toArray⟩, .int .i64 0] (0, 0) R1v.row (m := 2) (by kernel_rfl) (by simp) _ rfl hw') (fun K hK => ?_); go_simp; refine hK _ ?_; clear hK K
  refine NB.t_p 1 rfl (by kernel_rfl) (fun K hK => ?_); go_simp; refine hK _ ?_; clear hK K
  refine NB.t_p 2 rfl (by kernel_rfl) (fun K hK => ?_); go_simp; refine hK _ ?_; clear hK K
  refine NB.t_p 3 rfl (by kernel_rfl) (fun K hK => ?_); go_simp; refine hK _ ?_; clear hK K
  refine NB.t_e 4 rfl (by kernel_rfl) (by kernel_rfl) (fun K hK => ?_); unfold NB.tmoves; go_simp; refine c2.mono ?_; rintro e w2 ⟨rfl, hb2⟩; refine ⟨_, rfl, hb2, hK _ _ ?_⟩; clear hK K
  have R1w := R1v.below hb2
  have R2w := R2v.below hb2
  have hne : w.heap.size + 1 ≠ w.heap.size := by omega
  have R1' := R1w.set (.string ⟨s.1.b.toArray⟩) (.int .i64 s.1.e)
  have R2' := (R2w.other (g' := w.heap.size) (by omega) 0 (.string ⟨s.1.b.toArray⟩)).other (g' := w.heap.size) (by omega) 1 (.int .i64 s.1.e)
  have B2 := Bv.trans (hb2.mono Bv.size)
  have B3 := (B2.setCell (p := ⟨w.heap.size, 0, none⟩) (Nat.le_refl _) (.string ⟨s.1.b.toArray⟩)).setCell (p := ⟨w.heap.size, 1, none⟩) (Nat.le_refl _) (.int .i64 s.1.e)
  refine NB.t_p 5 rfl (by kernel_rfl) (fun K hK => ?_); go_simp; refine hK _ ?_; clear hK K
  refine NB.t_p 6 rfl (by kernel_rfl) (fun K hK => ?_); go_simp; refine hK _ ?_; clear hK K
  refine NB.t_p 7 rfl (by kernel_rfl) (fun K hK => ?_); go_simp; refine hK _ ?_; clear hK K
  have d0 := R1w.c0; have d1 := R1w.c1; have f0 := R1w.f0; have f1 := R1w.f1
  refine NB.t_w 8 rfl (by kernel_rfl) (by kernel_rfl) rfl (fun Q' hK => ?_)
  go_wp2
  clear d0 d1 f0 f1
  generalize ((w2.setCell ⟨w.heap.size, 0, none⟩ (.string ⟨s.1.b.toArray⟩)).setCell ⟨w.heap.size, 1, none⟩ (.int .i64 s.1.e)) = v3 at *
  refine NB.t_p 9 rfl (by kernel_rfl) (fun K hK => ?_); go_simp; refine hK _ ?_; clear hK K
  refine NB.t_end (by kernel_rfl) ?_
  clear R1v R2v Bv hb2 R1w R2w B2 c2 hwy hyy
  have e0 := R1'.c0; have e1 := R1'.c1; have g0 := R1'.f0; have g1 := R1'.f1
  have e2 := R2'.c0; have e3 := R2'.c1; have g2 := R2'.f0; have g3 := R2'.f1
  have hz := R2'.lt
  rcases hcs with he | ⟨he, hnil⟩
  · have he' : (s.1.e != 0) = false := by simp [he]
    have HE := Go.Lib.hid he; clear he
    go_wp2_with fail
    have hvl : ∀ k, k ≤ s.2.length → val (s.2.take k) < 256 ^ k := fun k hk => by
      have := NB.val_lt (s.2.take k)
      rwa [List.length_take, Nat.min_eq_left hk] at this
    have hl8 : s.2.length ≤ 8 := by omega
    go_loop [6, 7] (fun x i => ∃ k : Nat, k ≤ s.2.length ∧ x = .int .u64 (val (s.2.take k) : Int) ∧ i = .int .i64 k) (fun _ i => s.2.length - (intOf i).toNat)
    case atStart => exact ⟨0, by omega, rfl, rfl⟩
    case round =>
      obtain ⟨k, hk, rfl, rfl⟩ := hrel
      have hv := hvl k hk
      have HVL := Go.Lib.hid hvl; clear hvl
      by_cases hlt : k < s.2.length
      · have hvs := val_take s.2 k hlt
        have hX7 : val (s.2.take k) < 256 ^ 7 := Nat.lt_of_lt_of_le hv (Nat.pow_le_pow_right (by omega) (by omega))
        clear hv
        have hix : ∀ h, (ByteArray.mk s.2.toArray)[k]'h = s.2.getD k 0 := fun h => by simp [List.getD, hlt, ByteArray.getElem_eq_getElem_data]
        generalize s.2.getD k 0 = z at *
        generalize val (s.2.take k) = X at *
        have hX8 : X < 72057594037927936 := by simpa using hX7
        have hz := z.toNat_lt
        have hm1 : IntKind.u64.wrap ((X : Int) * 256) = (X : Int) * 256 := by rw [IntKind.wrap_u64]; omega
        have hm2 : IntKind.u64.wrap (z.toNat : Int) = (z.toNat : Int) := by rw [IntKind.wrap_u64]; omega
        have hm3 : IntKind.u64.wrap ((X : Int) * 256 + (z.toNat : Int)) = ((X * 256 + z.toNat : Nat) : Int) := by rw [IntKind.wrap_u64]; omega
        have HVS := Go.Lib.hid hvs
        clear hX7 hX8 hvs hz
        have hki : (k : Int) < (s.2.length : Int) := by omega
        go_wp2_with fail
        go_round
        case rel => exact ⟨k + 1, by omega, by rw [HVS.out]; exact congrArg (Value.int .u64) (by omega), by go_num⟩
        case measure => simp [intOf]; omega
      · obtain rfl : k = s.2.length := by omega
        rw [List.take_length]
        clear hv HVL hsl hl8 hlt
        generalize s.2 = l at *
        generalize s.1 = q at *
        cases l with
        | nil =>
          have hU : U = (q, 0) := by rw [HU.out]; simp [val]
          have HUU := Go.Lib.hid hU; clear hU HU
          go_wp2_with fail
          rw [HUU.out]
          refine bodyPost_ret (v := .tuple #[.agg #[.string ⟨q.b.toArray⟩, .int .i64 q.e], .int .u64 0]) (by simp [results, Tryd.results55, go_sem, e0, e1, e2, e3, hz, val]) rfl ⟨rfl, ?_⟩
          repeat (first | exact B3 | refine Below.setCell ?_ (by simp) _)
        | cons c l =>
          have hc0 : ∀ h, (ByteArray.mk (c :: l).toArray)[0]'h = c := fun _ => rfl
          by_cases hz0 : c = 0
          · subst hz0
            have hU : U = (q.fail 11, 0) := by rw [HU.out]; simp
            have hf : q.fail 11 = { q with e := 11 } := by simp [Rr.fail, HE.out]
            rw [hf] at hU
            have HUU := Go.Lib.hid hU; clear hU HU hf
            have R1k := R1'.set1 (.int .i64 11)
            have k0 := R1k.c0; have k1 := R1k.c1
            clear R1k
            have hz1 : (((0 : UInt8).toNat : Int) == 0) = true := rfl
            go_wp2_with fail
            rw [HUU.out]
            refine bodyPost_ret (v := .tuple #[.agg #[.string ⟨q.b.toArray⟩, .int .i64 11], .int .u64 0]) (by simp [results, Tryd.results55, go_sem, e0, e1, e2, e3, hz]) rfl ⟨rfl, ?_⟩
            repeat (first | exact B3 | refine Below.setCell ?_ (by simp) _)
          · have hU : U = (q, val (c :: l)) := by rw [HU.out]; simp [hz0]
            have HUU := Go.Lib.hid hU; clear hU HU
            have hz1 : ((c.toNat : Int) == 0) = false := by
              simp only [beq_eq_false_iff_ne]; intro e; exact hz0 (UInt8.toNat_inj.1 (by simpa using (by omega : c.toNat = 0)))
            generalize val (c :: l) = V at *
            go_wp2_with fail
            rw [HUU.out]
            refine bodyPost_ret (v := .tuple #[.agg #[.string ⟨q.b.toArray⟩, .int .i64 q.e], .int .u64 (V : Int)]) (by simp [results, Tryd.results55, go_sem, e0, e1, e2, e3, hz]) rfl ⟨rfl, ?_⟩
            repeat (first | exact B3 | refine Below.setCell ?_ (by simp) _)
  · have he' : (s.1.e != 0) = true := by simp [he]
    have hU : U = (s.1, 0) := by rw [HU.out, hnil]; simp [val]
    have HE := Go.Lib.hid he; have HN := Go.Lib.hid hnil; clear he hnil
    have HUU := Go.Lib.hid hU; clear hU
    go_wp2_with fail
    rw [HUU.out]
    refine bodyPost_ret (v := .tuple #[.agg #[.string ⟨s.1.b.toArray⟩, .int .i64 s.1.e], .int .u64 0]) (by simp [results, Tryd.results55, go_sem, e0, e1, e2, e3, hz]) rfl ⟨rfl, ?_⟩
    repeat (first | exact B3 | refine Below.setCell ?_ (by simp) _)

set_option maxHeartbeats 2000000 in
theorem refRead_any (w : World) (r : Rr) (hl : r.b.length ≤ 100000000) :
    Calls Tryd.prog 55 #[refR r] w (RefRU w r.uint) := by
  by_cases he : r.e = 0
  · obtain ⟨b, e⟩ := r
    simp only at he hl
    subst he
    cases b with
    | nil =>
      have hq : Rr.uint ⟨[], 0⟩ = (⟨[], 10⟩, 0) := by simp [Rr.uint, Rr.take]
      have hr : Rr.raw ⟨[], 0⟩ 1 = (⟨[], 10⟩, []) := by simp [Rr.raw, Rr.take]
      rw [hq]
      have c1 := refRaw_any ((w.alloc (.cells #[.string ⟨([] : List UInt8).toArray⟩, .int .i64 0] 74)).alloc (.cells #[.string ⟨([] : List UInt8).toArray⟩, .int .i64 0] 74)) ⟨[], 0⟩ 1 (by omega) (by simp)
      rw [hr] at c1
      unfold refR at *
      go_enter Tryd.func55, Tryd.ntmps55
      go_wp2_with fail
      refine c1.mono ?_
      rintro e w1 ⟨rfl, hb1⟩
      obtain ⟨d0, d1, d2, d3, f0, f1, f2, f3, hz⟩ := two_cells hb1
      have B1 := (below2 w _ _).trans (hb1.mono (by simp; omega))
      go_wp2_with fail
      refine bodyPost_ret (v := .tuple #[.agg #[.string ⟨([] : List UInt8).toArray⟩, .int .i64 10], .int .u64 0]) (by simp [results, Tryd.results55, go_sem, d0, d1, d2, d3, hz]) rfl ⟨rfl, ?_⟩
      repeat (first | exact B1 | refine Below.setCell ?_ (by simp) _)
    | cons y b =>
      have hyy : ∀ h, (ByteArray.mk #[y])[0]'h = y := fun _ => rfl
      have hr : Rr.raw ⟨y :: b, 0⟩ 1 = (⟨b, 0⟩, [y]) := by simp [Rr.raw, Rr.take]
      have c1 := refRaw_any ((w.alloc (.cells #[.string ⟨(y :: b : List UInt8).toArray⟩, .int .i64 0] 74)).alloc (.cells #[.string ⟨([] : List UInt8).toArray⟩, .int .i64 0] 74)) ⟨y :: b, 0⟩ 1 (by omega) hl
      rw [hr] at c1
      have hu := Rr.uint_step y b
      by_cases h8 : 8 < y.toNat
      · rw [if_pos h8] at hu
        rw [hu]
        have h8' : (8 : Int) < (y.toNat : Int) := by omega
        unfold refR at *
        go_enter Tryd.func55, Tryd.ntmps55
        go_wp2_with fail
        refine c1.mono ?_
        rintro e w1 ⟨rfl, hb1⟩
        obtain ⟨d0, d1, d2, d3, f0, f1, f2, f3, hz⟩ := two_cells hb1
        have B1 := (below2 w _ _).trans (hb1.mono (by simp; omega))
        have R1 := ((row2 (two_rows hb1).1).set (.string ⟨b.toArray⟩) (.int .i64 0)).set1 (.int .i64 11)
        have e0 := R1.c0
        have e1 := R1.c1
        clear R1
        go_wp2_with fail
        refine bodyPost_ret (v := .tuple #[.agg #[.string ⟨b.toArray⟩, .int .i64 11], .int .u64 0]) (by simp [results, Tryd.results55, go_sem, d0, d1, d2, d3, hz]) rfl ⟨rfl, ?_⟩
        repeat (first | exact B1 | refine Below.setCell ?_ (by simp) _)
      · exact refRead_go w y b (by omega) hl
  · have hq := Rr.uint_err he
    have he' : (r.e != 0) = true := by simp [he]
    rw [hq]
    have c1 := refRaw_any ((w.alloc (.cells #[.string ⟨(r.b : List UInt8).toArray⟩, .int .i64 r.e] 74)).alloc (.cells #[.string ⟨([] : List UInt8).toArray⟩, .int .i64 0] 74)) r 1 (by omega) hl
    rw [Rr.raw_err he] at c1
    clear he
    unfold refR at *
    go_enter Tryd.func55, Tryd.ntmps55
    go_wp2_with fail
    refine c1.mono ?_
    rintro e w1 ⟨rfl, hb1⟩
    obtain ⟨d0, d1, d2, d3, f0, f1, f2, f3, hz⟩ := two_cells hb1
    have B1 := (below2 w _ _).trans (hb1.mono (by simp; omega))
    go_wp2_with fail
    refine bodyPost_ret (v := .tuple #[.agg #[.string ⟨r.b.toArray⟩, .int .i64 r.e], .int .u64 0]) (by simp [results, Tryd.results55, go_sem, d0, d1, d2, d3, hz]) rfl ⟨rfl, ?_⟩
    repeat (first | exact B1 | refine Below.setCell ?_ (by simp) _)
end Go.Proofs.YtadgokegjmigoaaDoor
namespace Go.Proofs.YtadgokegjmigoaaDoor
open Go.RowKit
open Go.NB (Rd digs encU encB Rr val)

theorem raw_keeps (r : Rr) (n : Int) : (r.raw n).1.b.length ≤ r.b.length := by
  unfold Rr.raw
  split
  · unfold Rr.fail
    split <;> simp
  · exact Rr.take_left r _
theorem uint_keeps (r : Rr) : r.uint.1.b.length ≤ r.b.length := by
  have hf : ∀ (r : Rr) x, (r.fail x).b = r.b := by
    intro r x
    unfold Rr.fail
    split <;> rfl
  simp only [Rr.uint]
  split
  · exact Rr.take_left r 1
  · split
    · rw [hf]; exact Rr.take_left r 1
    · split
      · rw [hf]; exact Nat.le_trans (Rr.take_left _ _) (Rr.take_left r 1)
      · exact Nat.le_trans (Rr.take_left _ _) (Rr.take_left r 1)

set_option maxHeartbeats 2000000 in
theorem refRB_any (w : World) (r : Rr) (most : Int) (hm : most ≤ 9223372036854775807) (hl : r.b.length ≤ 100000000) :
    Calls Tryd.prog 58 #[refR r, .int .i64 most] w (RefRS w (r.bytes most)) := by
  have hq : r.bytes most = if r.uint.1.e ≠ 0 then (r.uint.1, []) else if most < 0 ∨ most < (r.uint.2 : Int) then (r.uint.1.fail 13, []) else r.uint.1.raw r.uint.2 := rfl
  have hul := uint_keeps r
  have c1 := refRead_any ((w.alloc (.cells #[.string ⟨r.b.toArray⟩, .int .i64 r.e] 74)).alloc (.cells #[.string ⟨([] : List UInt8).toArray⟩, .int .i64 0] 74)) r hl
  generalize r.uint = u at *
  by_cases he : u.1.e = 0
  · have he' : (u.1.e != 0) = false := by simp [he]
    rw [if_neg (by simp [he])] at hq
    have HE := Go.Lib.hid he; clear he
    by_cases hb : most < 0 ∨ most < (u.2 : Int)
    · rw [if_pos hb, show u.1.fail 13 = { u.1 with e := 13 } by simp [Rr.fail, HE.out]] at hq
      rw [hq]
      unfold refR at *
      clear hq
      rcases Int.lt_or_le most 0 with h0 | h0
      all_goals
        go_enter Tryd.func58, Tryd.ntmps58
        go_wp2_with fail
        refine c1.mono ?_
        rintro e w1 ⟨rfl, hb1⟩
        obtain ⟨d0, d1, d2, d3, f0, f1, f2, f3, hz⟩ := two_cells hb1
        have B1 := (below2 w _ _).trans (hb1.mono (by simp; omega))
        have R1 := ((row2 (two_rows hb1).1).set (.string ⟨u.1.b.toArray⟩) (.int .i64 u.1.e)).set1 (.int .i64 13)
        have e0 := R1.c0
        have e1 := R1.c1
        clear R1
        have hbb : ¬ most < 0 → most < (u.2 : Int) := fun h => hb.resolve_left h
        clear hb
        first
          | have h1 := hbb (by omega)
          | skip
        clear hbb
        go_wp2_with fail
        refine bodyPost_ret (v := .tuple #[.agg #[.string ⟨u.1.b.toArray⟩, .int .i64 13], .string ⟨([] : List UInt8).toArray⟩]) (by simp [results, Tryd.results58, go_sem, d0, d1, d2, d3, hz]) rfl ⟨rfl, ?_⟩
        repeat (first | exact B1 | refine Below.setCell ?_ (by simp) _)
    · rw [if_neg hb] at hq
      obtain ⟨m, rfl⟩ := Int.eq_ofNat_of_zero_le (show 0 ≤ most by omega)
      have h0 : (u.2 : Int) ≤ (m : Int) := by omega
      have h2 : (u.2 : Int) ≤ 9223372036854775807 := by omega
      have HQ := Go.Lib.hid hq; clear hq hb
      generalize r.bytes (m : Int) = U at *
      have c2 := fun w => refRaw_any w u.1 (u.2 : Int) h2 (by omega)
      rw [← HQ.out] at c2
      unfold refR at *
      have C2 := Go.Lib.hid c2; clear c2
      go_enter Tryd.func58, Tryd.ntmps58
      go_wp2_with fail
      refine c1.mono ?_
      rintro e w1 ⟨rfl, hb1⟩
      obtain ⟨d0, d1, d2, d3, f0, f1, f2, f3, hz⟩ := two_cells hb1
      have B1 := (below2 w _ _).trans (hb1.mono (by simp; omega))
      go_wp2_with fail
      have R2 := ((row2 (two_rows hb1).2).other (g' := w.heap.size) (by omega) 0 (.string ⟨u.1.b.toArray⟩)).other (g' := w.heap.size) (by omega) 1 (.int .i64 u.1.e)
      have BW := (B1.setCell (p := ⟨w.heap.size, 0, none⟩) (Nat.le_refl _) (.string ⟨u.1.b.toArray⟩)).setCell (p := ⟨w.heap.size, 1, none⟩) (Nat.le_refl _) (.int .i64 u.1.e)
      refine (C2.out _).mono ?_
      rintro e w2 ⟨rfl, hb2⟩
      have R2' := R2.below hb2
      have B2 := BW.trans (hb2.mono BW.size)
      have e0 := R2'.c0; have e1 := R2'.c1; have g0 := R2'.f0; have g1 := R2'.f1
      have hz2 := R2'.lt
      clear R2' R2 BW hb2 hb1 d0 d1 d2 d3 f0 f1 f2 f3
      go_wp2_with fail
      refine bodyPost_ret (v := .tuple #[.agg #[.string ⟨U.1.b.toArray⟩, .int .i64 U.1.e], .string ⟨U.2.toArray⟩]) (by simp [results, Tryd.results58, go_sem, e0, e1, hz2]) rfl ⟨rfl, ?_⟩
      repeat (first | exact B2 | refine Below.setCell ?_ (by simp) _)
  · have he' : (u.1.e != 0) = true := by simp [he]
    rw [if_pos he] at hq
    rw [hq]
    clear he hq
    unfold refR at *
    go_enter Tryd.func58, Tryd.ntmps58
    go_wp2_with fail
    refine c1.mono ?_
    rintro e w1 ⟨rfl, hb1⟩
    obtain ⟨d0, d1, d2, d3, f0, f1, f2, f3, hz⟩ := two_cells hb1
    have B1 := (below2 w _ _).trans (hb1.mono (by simp; omega))
    go_wp2_with fail
    refine bodyPost_ret (v := .tuple #[.agg #[.string ⟨u.1.b.toArray⟩, .int .i64 u.1.e], .string ⟨([] : List UInt8).toArray⟩]) (by simp [results, Tryd.results58, go_sem, d0, d1, d2, d3, hz]) rfl ⟨rfl, ?_⟩
    repeat (first | exact B1 | refine Below.setCell ?_ (by simp) _)
end Go.Proofs.YtadgokegjmigoaaDoor
namespace Go.Proofs.YtadgokegjmigoaaDoor
open Go.RowKit
open Go.NB.Crc
open Go.NB (Rd)

theorem rstep_lt (x : Nat) (h : x < 4294967296) : rstep x < 4294967296 := by
  unfold rstep; split
  · exact Nat.xor_lt_two_pow (n := 32) (by omega) (by omega)
  · omega

theorem rsteps_lt (n x : Nat) (h : x < 4294967296) : rsteps n x < 4294967296 := by
  induction n with
  | zero => exact h
  | succ n ih => exact rstep_lt _ ih
theorem xor8 (z : Nat) (v : UInt8) (h : z < 4294967296) : bits .xor .u32 (z : Int) ((v.toNat : Int) % 4294967296) = ((z ^^^ v.toNat : Nat) : Int) ∧ z ^^^ v.toNat < 4294967296 := by
  have hv : v.toNat < 256 := v.toNat_lt
  rw [show ((v.toNat : Int) % 4294967296) = ((v.toNat : Nat) : Int) by omega, u32_xor_nat _ _ h (by omega)]
  exact ⟨rfl, Nat.xor_lt_two_pow (n := 32) h (by omega)⟩
theorem xorp (y : Nat) (h : y < 4294967296) : bits .xor .u32 ((y : Int) / 2) 2197175160 = (((y / 2) ^^^ 2197175160 : Nat) : Int) := by
  rw [show ((y : Int) / 2) = ((y / 2 : Nat) : Int) by omega, show (2197175160 : Int) = ((2197175160 : Nat) : Int) from rfl, u32_xor_nat _ _ (by omega) (by omega)]
theorem bget (s : ByteArray) (k : Nat) (h : k < s.size) : s.data.toList.getD k 0 = s[k] := by
  have h' : k < s.data.toList.length := by simpa using h
  rw [List.getD, List.getElem?_eq_getElem h']
  simp; rfl

set_option maxHeartbeats 400000 in
theorem rof_any (w : World) (s : ByteArray) (hs : s.size ≤ maxLen) :
    Calls Tryd.prog 45 #[.string s] w fun e w' => e = .returned (.int .u32 (rsum s.data.toList : Int)) ∧ w' = w := by
  unfold maxLen at hs
  go_enter Tryd.func45, Tryd.ntmps45
  go_wp2
  go_loop [3, 4] (fun x i => ∃ k : Nat, k ≤ s.size ∧ i = .int .i64 k ∧ ∃ z : Nat, z = rL 4294967295 (s.data.toList.take k) ∧ z < 4294967296 ∧ x = .int .u32 z) (fun _ i => s.size - (intOf i).toNat)
  case atStart => exact ⟨0, by omega, rfl, 4294967295, rfl, by omega, rfl⟩
  case round =>
    obtain ⟨k, hk, rfl, z, hz, hzl, rfl⟩ := hrel
    have HZ := Go.Lib.hid hz; clear hz
    by_cases hkn : k < s.size
    · have hsk := bget s k hkn
      go_wp2
      generalize s[k] = v at *
      obtain ⟨e1, hx⟩ := xor8 z v hzl
      rw [e1]
      have HK := Go.Lib.hid hsk; clear hsk e1
      generalize hx0 : z ^^^ v.toNat = x0 at *
      have HX := Go.Lib.hid hx0; clear hx0
      go_loop [3, 5] (fun x i => ∃ q : Nat, q ≤ 8 ∧ i = .int .i64 q ∧ ∃ y : Nat, y = rsteps q x0 ∧ y < 4294967296 ∧ x = .int .u32 y) (fun _ i => 8 - (intOf i).toNat)
      case atStart => exact ⟨0, by omega, rfl, x0, rfl, hx, rfl⟩
      case round =>
        obtain ⟨q, hq, rfl, y, hy, hyl, rfl⟩ := hrel
        have HY := Go.Lib.hid hy; clear hy
        by_cases hq8 : q < 8
        · by_cases hy2 : y % 2 = 1
          · have e2 : ((y : Int) % 2 == 1) = true := by simp; omega
            have e3 := xorp y hyl
            have hlt := rstep_lt y hyl
            have hst : rstep y = (y / 2) ^^^ 2197175160 := by simp [rstep, hy2]
            clear hy2
            generalize hr : (y / 2) ^^^ 2197175160 = r at *
            have HR := Go.Lib.hid hst; clear hst hr
            go_wp2
            go_round
            case rel => exact ⟨q+1, by omega, by go_num, r, by rw [← HR.out, HY.out]; rfl, by rw [← HR.out]; exact hlt, rfl⟩
            case measure => simp [intOf]; omega
          · have e2 : ((y : Int) % 2 == 1) = false := by simp; omega
            have hlt := rstep_lt y hyl
            have HR : Hid (rstep y = y / 2) := Go.Lib.hid (by simp [rstep, hy2])
            clear hy2
            go_wp2
            go_round
            case rel => exact ⟨q+1, by omega, by go_num, y / 2, by rw [← HR.out, HY.out]; rfl, by omega, by simp⟩
            case measure => simp [intOf]; omega
        · obtain rfl : q = 8 := by omega
          go_wp2
          go_round
          case rel => exact ⟨k+1, by omega, by go_num, y, by rw [HY.out, ← HX.out, HZ.out, ← HK.out, NB.take_getD (d := 0) _ k (by simpa using hkn)]; simp [rL, rB], hyl, rfl⟩
          case measure => simp [intOf]; omega
    · obtain rfl : k = s.size := by omega
      have hz := HZ.out
      rw [List.take_of_length_le (by simp)] at hz
      obtain ⟨r, hr⟩ : ∃ r : Nat, r = 4294967295 - z := ⟨_, rfl⟩
      have hr2 : 4294967295 - (z : Int) = (r : Int) := by omega
      have HR : Hid (r = rsum s.data.toList) := Go.Lib.hid (by unfold rsum; rw [← hz, hr])
      clear hz hr
      go_wp2
      go_ret
      exact ⟨by rw [← HR.out]; rfl, rfl⟩

/-- The same at a string that is given as a list. -/
theorem rof_l (w : World) (l : List UInt8) (hs : l.length ≤ 9223372036854775807) :
    Calls Tryd.prog 45 #[.string ⟨l.toArray⟩] w fun e w' => e = .returned (.int .u32 (rsum l : Int)) ∧ w' = w := by
  have := rof_any w ⟨l.toArray⟩ (by unfold maxLen; show l.toArray.size ≤ _; simpa using hs)
  simpa using this
theorem rsealedL_len (l : List UInt8) : (l ++ four (rsum l)).length = l.length + 4 := by simp [four]
theorem rsum_lt (l : List UInt8) : rsum l < 4294967296 := by unfold rsum; omega

set_option maxHeartbeats 400000 in
theorem rfour_any (w : World) (x : Nat) (hx : x < 4294967296) :
    Calls Tryd.prog 44 #[.int .u32 (x : Int)] w fun e w' => e = .returned (.string ⟨(four x).toArray⟩) ∧ Below w.heap.size w w' := by
  have hfc := four_cells x hx
  go_enter Tryd.func44, Tryd.ntmps44
  go_wp2_with (with_reducible refine NB.wpList_conv_str (o := ⟨some 15, _, _, _, _, _⟩) rfl 22 9 (.tmp 14) rfl Tryd.underlying22 Tryd.underlying5 Tryd.underlying9 _ _ _ (four x) rfl (NB.rd_new w _ 5 4 rfl (by unfold maxLen; omega) rfl) ?_)
  go_ret
  exact ⟨rfl, (Below.refl _ _).alloc (Nat.le_refl _) _⟩

def rsealedL (bs : List UInt8) : List UInt8 := bs ++ four (rsum bs)

set_option maxHeartbeats 400000 in
theorem rsealed_any (w : World) (l : List UInt8) (hl : l.length ≤ 140737488355328) :
    Calls Tryd.prog 20 #[.string ⟨l.toArray⟩] w fun e w' => e = .returned (.string ⟨(rsealedL l).toArray⟩) ∧ Below w.heap.size w w' := by
  have hx := rsum_lt l
  have h4 : (four (rsum l)).length = 4 := rfl
  go_enter Tryd.func20, Tryd.ntmps20
  go_wp2_with (first
    | (go_at_call 45; refine (rof_l _ _ (by omega)).mono ?_; rintro e w1 ⟨rfl, rfl⟩)
    | (go_at_call 44; refine (rfour_any _ _ hx).mono ?_; rintro e w1 ⟨rfl, hb1⟩))
  go_ret
  exact ⟨rfl, hb1⟩

def rrightL (bs : List UInt8) : Bool := decide (4 ≤ bs.length) && (rsealedL (bs.take (bs.length - 4)) == bs)

set_option maxHeartbeats 400000 in
theorem rright_any (w : World) (l : List UInt8) (hl : l.length ≤ 140737488355328) :
    Calls Tryd.prog 56 #[.string ⟨l.toArray⟩] w fun e w' => e = .returned (.bool (rrightL l)) ∧ Below w.heap.size w w' := by
  by_cases h4 : 4 ≤ l.length
  · obtain ⟨k, hk⟩ : ∃ k, k = l.length - 4 := ⟨_, rfl⟩
    have e0 : ((l.length : Int) - 4) = (k : Int) := by omega
    have hkl : k ≤ l.length := by omega
    have HK := Go.Lib.hid hk; clear hk
    go_enter Tryd.func56, Tryd.ntmps56
    go_wp2_with (first
      | (go_at_call 20; refine (rsealed_any _ _ (by simp; omega)).mono ?_; rintro e w1 ⟨rfl, hb1⟩))
    go_ret
    exact ⟨by have := HK.out; simp [rrightL, h4, this], hb1⟩
  · go_enter Tryd.func56, Tryd.ntmps56
    go_wp2
    go_ret
    exact ⟨by simp [rrightL, h4], Below.refl _ _⟩

theorem rsealed_eq (l : List UInt8) : rsealedL l = sealedL l := by unfold rsealedL sealedL; rw [sum_eq]; simp
theorem rright_eq (l : List UInt8) : rrightL l = rightL l := by unfold rrightL rightL; rw [rsealed_eq]
end Go.Proofs.YtadgokegjmigoaaDoor
namespace Go.Proofs.YtadgokegjmigoaaDoor
open Go.RowKit
open Go.NB (Rd Kp Stp Off Dis Rr encU oneB dB Rw digs)

/-- A string and an error, in whatever later world. -/
def StrE (w : World) (r : List UInt8 × Int) (e : Ending) (w' : World) : Prop := e = .returned (.tuple #[.string ⟨r.1.toArray⟩, .int .i64 r.2]) ∧ Below w.heap.size w w'

set_option maxHeartbeats 1000000 in
theorem rfput_any (w : World) (k : UInt8) (b : List UInt8) (hb : b.length ≤ 100000000) :
    Calls Tryd.prog 10 #[.agg #[.int .u8 (k.toNat : Int), .string ⟨b.toArray⟩]] w (StrE w (fputM (k, b))) := by
  have hrow := NB.rw_new w [.int .u8 (k.toNat : Int), .string ⟨b.toArray⟩] 28 rfl
  have hB := oneB w (.cells #[.int .u8 (k.toNat : Int), .string ⟨b.toArray⟩] 28)
  simp only [List.toArray] at hrow
  by_cases h0 : 65535 < b.length
  · have hq : fputM (k, b) = ([], 13) := fput_big (by simp only; omega)
    rw [hq]
    have h0' : (65535 : Int) < (b.length : Int) := by omega
    go_enter Tryd.func10, Tryd.ntmps10
    go_wp2
    go_ret2
    exact ⟨rfl, hB⟩
  · have hq : fputM (k, b) = (sealedL (encU b.length ++ [k] ++ b), 0) := fput_is (by simp only; omega)
    rw [hq]
    have h0' : ¬ (65535 : Int) < (b.length : Int) := by omega
    have hx9 := NB.encU_len (x := b.length) (by omega)
    have hZ : (encU b.length ++ [k] ++ b).length ≤ 100000 := by simp; omega
    have cs := fun w => rsealed_any w (encU b.length ++ [k] ++ b) (by omega)
    rw [rsealed_eq] at cs
    rw [List.append_assoc, List.singleton_append] at cs
    have hI : (encU b.length ++ [k] ++ b) = encU b.length ++ k :: b := by simp
    rw [hI]
    have kl1 : (1 : Nat) ≤ maxLen := by unfold maxLen; omega
    clear hI hZ hq
    have hA1 : ¬ 9223372036854775807 < (encU b.length).length + 1 := by omega
    have hA2 : ¬ 9223372036854775807 < (encU b.length).length + 1 + b.length := by omega
    have hwr : IntKind.u64.wrap (b.length : Int) = (b.length : Int) := by rw [IntKind.wrap_u64]; omega
    go_enter Tryd.func10, Tryd.ntmps10
    go_wp2_with fail
    generalize w.alloc (.cells #[.int .u8 (k.toNat : Int), .string ⟨b.toArray⟩] 28) = w1 at *
    refine NB.wp_region_t [] (by kernel_rfl) ?_
    have row1 := hrow.below (dB w1)
    have B1 := hB.drew
    clear hrow hB
    generalize w1.drew = w2 at *
    obtain ⟨c0, c1, _⟩ := NB.rw2 row1
    refine NB.t_p 0 rfl (by kernel_rfl) (fun K hK => ?_); go_simp; refine hK _ ?_; clear hK K
    refine NB.t_r 1 [2, 3, 4, 9, 12, 13, 14, 15] rfl (by kernel_rfl) (by kernel_rfl) rfl _ (fun w' hw' => NB.run_op_load rfl rfl Tryd.underlying9 rfl c1 hw') (fun K hK => ?_); go_simp; refine hK _ ?_; clear hK K
    refine NB.t_p 2 rfl (by kernel_rfl) (fun K hK => ?_); go_simp; refine hK _ ?_; clear hK K
    refine NB.t_p 3 rfl (by kernel_rfl) (fun K hK => ?_); go_simp; refine hK _ ?_; clear hK K
    refine NB.t_p 5 rfl (by kernel_rfl) (fun K hK => ?_); go_simp; refine hK _ ?_; clear hK K
    refine NB.t_r 6 [7, 8, 9, 12, 13, 14, 15] rfl (by kernel_rfl) (by kernel_rfl) rfl _ (fun w' hw' => NB.run_op_load rfl rfl Tryd.underlying5 rfl c0 hw') (fun K hK => ?_); go_simp; refine hK _ ?_; clear hK K
    refine NB.t_p 10 rfl (by kernel_rfl) (fun K hK => ?_); go_simp; refine hK _ ?_; clear hK K
    refine NB.t_r 11 [12, 13, 14, 15] rfl (by kernel_rfl) (by kernel_rfl) rfl _ (fun w' hw' => NB.run_op_load rfl rfl Tryd.underlying9 rfl c1 hw') (fun K hK => ?_); go_simp; refine hK _ ?_; clear hK K
    refine NB.t_e2 4 7 rfl rfl (by kernel_rfl) (by kernel_rfl) (by kernel_rfl) (fun K hK => ?_) (fun K hK => ?_)
    · unfold NB.tmoves; go_simp; refine (ruintR_any _ b.length (by omega)).mono ?_; rintro e w3 ⟨rfl, hb3⟩; refine ⟨_, rfl, hb3, hK _ _ ?_⟩; clear hK K
      refine NB.t_e 7 rfl (by kernel_rfl) (by kernel_rfl) (fun K hK => ?_); unfold NB.tmoves; go_simp; refine ⟨oneB _ _, hK _ _ ?_⟩; clear hK K
      have r4 := NB.rdB_lit (w := w3) (fr := (0, 0)) (t := 5) [k] (cs := #[.int .u8 (k.toNat : Int)]) rfl rfl kl1 rfl
      refine NB.t_r 8 [9, 12, 13, 14, 15] rfl (by kernel_rfl) (by kernel_rfl) rfl _ (fun w' hw' => NB.run_op_conv_str Tryd.underlying22 Tryd.underlying5 Tryd.underlying9 rfl rfl (Rd.below r4 hw')) (fun K hK => ?_); go_simp; refine hK _ ?_; clear hK K
      refine NB.t_p 9 rfl (by kernel_rfl) (fun K hK => ?_); go_simp; refine hK _ ?_; clear hK K
      refine NB.t_p 12 rfl (by kernel_rfl) (fun K hK => ?_); go_simp; refine hK _ ?_; clear hK K
      refine NB.t_e 13 rfl (by kernel_rfl) (by kernel_rfl) (fun K hK => ?_); unfold NB.tmoves; go_simp; refine (cs _).mono ?_; rintro e w5 ⟨rfl, hb5⟩; refine ⟨_, rfl, by simpa using hb5, hK _ _ ?_⟩; clear hK K
      refine NB.t_p 14 rfl (by kernel_rfl) (fun K hK => ?_); go_simp; refine hK _ ?_; clear hK K
      refine NB.t_p 15 rfl (by kernel_rfl) (fun K hK => ?_); go_simp; refine hK _ ?_; clear hK K
      refine NB.t_end (by kernel_rfl) ?_
      go_wp2_with fail
      go_ret2
      have B3 := NB.bel B1 hb3 B1.size
      have B4 := NB.bel B3 (oneB w3 (.cells #[.int .u8 (k.toNat : Int)] 5)) B3.size
      exact ⟨rfl, NB.bel B4 hb5 B4.size⟩
    · unfold NB.tmoves; go_simp; refine ⟨oneB _ _, hK _ _ ?_⟩; clear hK K
      have r4 := NB.rdB_lit (w := w2) (fr := (0, 0)) (t := 5) [k] (cs := #[.int .u8 (k.toNat : Int)]) rfl rfl kl1 rfl
      refine NB.t_r 8 [9, 12, 13, 14, 15] rfl (by kernel_rfl) (by kernel_rfl) rfl _ (fun w' hw' => NB.run_op_conv_str Tryd.underlying22 Tryd.underlying5 Tryd.underlying9 rfl rfl (Rd.below r4 hw')) (fun K hK => ?_); go_simp; refine hK _ ?_; clear hK K
      refine NB.t_e 4 rfl (by kernel_rfl) (by kernel_rfl) (fun K hK => ?_); unfold NB.tmoves; go_simp; refine (ruintR_any _ b.length (by omega)).mono ?_; rintro e w4 ⟨rfl, hb4⟩; refine ⟨_, rfl, by simpa using hb4, hK _ _ ?_⟩; clear hK K
      refine NB.t_p 9 rfl (by kernel_rfl) (fun K hK => ?_); go_simp; refine hK _ ?_; clear hK K
      refine NB.t_p 12 rfl (by kernel_rfl) (fun K hK => ?_); go_simp; refine hK _ ?_; clear hK K
      refine NB.t_e 13 rfl (by kernel_rfl) (by kernel_rfl) (fun K hK => ?_); unfold NB.tmoves; go_simp; refine (cs _).mono ?_; rintro e w5 ⟨rfl, hb5⟩; refine ⟨_, rfl, by simpa using hb5, hK _ _ ?_⟩; clear hK K
      refine NB.t_p 14 rfl (by kernel_rfl) (fun K hK => ?_); go_simp; refine hK _ ?_; clear hK K
      refine NB.t_p 15 rfl (by kernel_rfl) (fun K hK => ?_); go_simp; refine hK _ ?_; clear hK K
      refine NB.t_end (by kernel_rfl) ?_
      go_wp2_with fail
      go_ret2
      have B3 := NB.bel B1 (oneB w2 (.cells #[.int .u8 (k.toNat : Int)] 5)) B1.size
      have B4 := NB.bel B3 hb4 B3.size
      exact ⟨rfl, NB.bel B4 hb5 B4.size⟩
def RGetE (w : World) (r : Fr × Nat × Int) (e : Ending) (w' : World) : Prop :=
  e = .returned (.tuple #[.agg #[.int .u8 (r.1.1.toNat : Int), .string ⟨r.1.2.toArray⟩], .int .i64 (r.2.1 : Int), .int .i64 r.2.2]) ∧ Below w.heap.size w w'

set_option maxHeartbeats 1000000 in
theorem rfget_any (w : World) (b : List UInt8) (hl : b.length ≤ 100000000) :
    Calls Tryd.prog 28 #[.string ⟨b.toArray⟩] w (RGetE w (fgetM b)) := by
  have ctr := fun w => refRead_any w ⟨b, 0⟩ hl
  unfold refR RefRU at ctr
  rcases get_ways b with ⟨e, he, h0, hm⟩ | ⟨x, l, -, -, hu, hb, hm⟩ | ⟨x, l, -, hu, hb, hll, hm⟩ | ⟨x, l, h, hu, hb, hll, hrr, hm⟩ | ⟨x, k, l, h, hu, hb, hll, hrr, hm⟩
  · rw [hm]
    have he' : (e != 0) = true := by simp [h0]
    generalize Rr.uint ⟨b, 0⟩ = u at *
    obtain ⟨⟨ub, ue⟩, un⟩ := u
    simp only at he ctr
    subst he
    clear h0 hm
    go_enter Tryd.func28, Tryd.ntmps28
    go_wp2_with fail
    refine (ctr _).mono ?_
    rintro e2 w1 ⟨rfl, hb1⟩
    have hA1 := (NB.rw_new w [.int .u8 0, .string ⟨#[]⟩] 28 rfl).below hb1
    have B1 := NB.bel (oneB _ _) hb1 (oneB w (.cells #[.int .u8 0, .string ⟨#[]⟩] 28)).size
    clear hb1
    go_wp2_with fail
    have hR2 := NB.rw_new w1 [.string ⟨ub.toArray⟩, .int .i64 ue] 74 rfl
    have ob := oneB w1 (.cells #[.string ⟨ub.toArray⟩, .int .i64 ue] 74)
    have hA2 := hA1.below ob
    have B2 := NB.bel B1 ob B1.size
    have hne : w1.heap.size ≠ w.heap.size := by have := hA1.lt; omega
    simp only [List.toArray] at hR2
    obtain ⟨c0, c1, f0, f1⟩ := NB.rw2 hR2
    clear hA1 B1 ob
    go_wp2_with fail
    generalize w1.alloc (.cells #[.string ⟨ub.toArray⟩, .int .i64 ue] 74) = w2 at *
    obtain ⟨d0, d1, g0, g1⟩ := NB.rw2 hA2
    have hltA := hA2.lt
    go_region
    all_goals go_wp2
    have BF := (B2.setCell (p := ⟨w.heap.size, 0, none⟩) (Nat.le_refl _) (.int .u8 0)).setCell (p := ⟨w.heap.size, 1, none⟩) (Nat.le_refl _) (.string ⟨#[]⟩)
    refine bodyPost_ret (v := .tuple #[.agg #[.int .u8 0, .string ⟨#[]⟩], .int .i64 0, .int .i64 ue]) (by simp [results, Tryd.results28, go_sem, d0, d1, hltA]) rfl ?_
    exact ⟨rfl, BF.drew⟩
  · rw [hm]
    rw [hu] at ctr
    simp only at ctr
    have hb' : (65535 : Int) < (x : Int) := by omega
    clear hm hu
    go_enter Tryd.func28, Tryd.ntmps28
    go_wp2_with fail
    refine (ctr _).mono ?_
    rintro e2 w1 ⟨rfl, hb1⟩
    have hA1 := (NB.rw_new w [.int .u8 0, .string ⟨#[]⟩] 28 rfl).below hb1
    have B1 := NB.bel (oneB _ _) hb1 (oneB w (.cells #[.int .u8 0, .string ⟨#[]⟩] 28)).size
    clear hb1
    have hR2 := NB.rw_new w1 [.string ⟨l.toArray⟩, .int .i64 0] 74 rfl
    have ob := oneB w1 (.cells #[.string ⟨l.toArray⟩, .int .i64 0] 74)
    have hA2 := hA1.below ob
    have B2 := NB.bel B1 ob B1.size
    have hne : w1.heap.size ≠ w.heap.size := by have := hA1.lt; omega
    simp only [List.toArray] at hR2
    obtain ⟨c0, c1, f0, f1⟩ := NB.rw2 hR2
    obtain ⟨d0, d1, g0, g1⟩ := NB.rw2 hA2
    have hltA := hA2.lt
    clear hA1 B1 ob
    go_wp2_with fail
    generalize w1.alloc (.cells #[.string ⟨l.toArray⟩, .int .i64 0] 74) = w2 at *
    have BF := (B2.setCell (p := ⟨w.heap.size, 0, none⟩) (Nat.le_refl _) (.int .u8 0)).setCell (p := ⟨w.heap.size, 1, none⟩) (Nat.le_refl _) (.string ⟨#[]⟩)
    refine bodyPost_ret (v := .tuple #[.agg #[.int .u8 0, .string ⟨#[]⟩], .int .i64 0, .int .i64 13]) (by simp [results, Tryd.results28, go_sem, d0, d1, hltA]) rfl ?_
    exact ⟨rfl, BF⟩
  · rw [hm]
    rw [hu] at ctr
    simp only at ctr
    have hb' : ¬ (65535 : Int) < (x : Int) := by omega
    have hs' : (l.length : Int) < (x : Int) + 5 := by omega
    have hw' : IntKind.i64.wrap (x : Int) = (x : Int) := by rw [IntKind.wrap_i64]; omega
    clear hm hu
    go_enter Tryd.func28, Tryd.ntmps28
    go_wp2_with fail
    refine (ctr _).mono ?_
    rintro e2 w1 ⟨rfl, hb1⟩
    have hA1 := (NB.rw_new w [.int .u8 0, .string ⟨#[]⟩] 28 rfl).below hb1
    have B1 := NB.bel (oneB _ _) hb1 (oneB w (.cells #[.int .u8 0, .string ⟨#[]⟩] 28)).size
    clear hb1
    have hR2 := NB.rw_new w1 [.string ⟨l.toArray⟩, .int .i64 0] 74 rfl
    have ob := oneB w1 (.cells #[.string ⟨l.toArray⟩, .int .i64 0] 74)
    have hA2 := hA1.below ob
    have B2 := NB.bel B1 ob B1.size
    have hne : w1.heap.size ≠ w.heap.size := by have := hA1.lt; omega
    simp only [List.toArray] at hR2
    obtain ⟨c0, c1, f0, f1⟩ := NB.rw2 hR2
    obtain ⟨d0, d1, g0, g1⟩ := NB.rw2 hA2
    have hltA := hA2.lt
    clear hA1 B1 ob
    go_wp2_with fail
    generalize w1.alloc (.cells #[.string ⟨l.toArray⟩, .int .i64 0] 74) = w2 at *
    have BF := (B2.setCell (p := ⟨w.heap.size, 0, none⟩) (Nat.le_refl _) (.int .u8 0)).setCell (p := ⟨w.heap.size, 1, none⟩) (Nat.le_refl _) (.string ⟨#[]⟩)
    refine bodyPost_ret (v := .tuple #[.agg #[.int .u8 0, .string ⟨#[]⟩], .int .i64 0, .int .i64 10]) (by simp [results, Tryd.results28, go_sem, d0, d1, hltA]) rfl ?_
    exact ⟨rfl, BF⟩
  · rw [hm]
    rw [hu] at ctr
    simp only at ctr
    have hb' : ¬ (65535 : Int) < (x : Int) := by omega
    have hs' : ¬ (l.length : Int) < (x : Int) + 5 := by omega
    have hw' : IntKind.i64.wrap (x : Int) = (x : Int) := by rw [IntKind.wrap_i64]; omega
    have hbl : (b.length : Int) - (l.length : Int) = ((encU x).length : Int) := by
      have := congrArg List.length h
      simp at this
      omega
    have hle : (encU x).length + x + 5 ≤ b.length := by
      have := congrArg List.length h
      simp at this
      omega
    have crr := fun w => rright_any w (b.take ((encU x).length + x + 5)) (by simp; omega)
    rw [rright_eq, hrr] at crr
    generalize (encU x).length = X at *
    have hle2 : (X : Int) + (x : Int) + 5 ≤ (b.length : Int) := by omega
    have hle3 : (0 : Int) ≤ (X : Int) + (x : Int) + 5 := by omega
    have e5 : ((X : Int) + (x : Int) + 5).toNat = X + x + 5 := by omega
    clear hm hu hrr h
    go_enter Tryd.func28, Tryd.ntmps28
    go_wp2_with fail
    refine (ctr _).mono ?_
    rintro e2 w1 ⟨rfl, hb1⟩
    have hA1 := (NB.rw_new w [.int .u8 0, .string ⟨#[]⟩] 28 rfl).below hb1
    have B1 := NB.bel (oneB _ _) hb1 (oneB w (.cells #[.int .u8 0, .string ⟨#[]⟩] 28)).size
    clear hb1
    have hR2 := NB.rw_new w1 [.string ⟨l.toArray⟩, .int .i64 0] 74 rfl
    have ob := oneB w1 (.cells #[.string ⟨l.toArray⟩, .int .i64 0] 74)
    have hA2 := hA1.below ob
    have B2 := NB.bel B1 ob B1.size
    have hne : w1.heap.size ≠ w.heap.size := by have := hA1.lt; omega
    simp only [List.toArray] at hR2
    obtain ⟨c0, c1, f0, f1⟩ := NB.rw2 hR2
    obtain ⟨d0, d1, g0, g1⟩ := NB.rw2 hA2
    have hltA := hA2.lt
    clear hA1 B1 ob
    go_wp2_with fail
    generalize w1.alloc (.cells #[.string ⟨l.toArray⟩, .int .i64 0] 74) = w2 at *
    refine (crr _).mono ?_
    rintro e3 w3 ⟨rfl, hb3⟩
    have hA3 := hA2.below hb3
    have hR3 := hR2.below hb3
    have B3 := NB.bel B2 hb3 B2.size
    clear c0 c1 f0 f1 d0 d1 g0 g1 hA2 hR2 B2 hb3 hltA
    obtain ⟨c0, c1, f0, f1⟩ := NB.rw2 hR3
    obtain ⟨d0, d1, g0, g1⟩ := NB.rw2 hA3
    have hltA := hA3.lt
    go_wp2_with fail
    have BF := (B3.setCell (p := ⟨w.heap.size, 0, none⟩) (Nat.le_refl _) (.int .u8 0)).setCell (p := ⟨w.heap.size, 1, none⟩) (Nat.le_refl _) (.string ⟨#[]⟩)
    refine bodyPost_ret (v := .tuple #[.agg #[.int .u8 0, .string ⟨#[]⟩], .int .i64 0, .int .i64 14]) (by simp [results, Tryd.results28, go_sem, d0, d1, hltA]) rfl ?_
    exact ⟨rfl, BF⟩
  · rw [hm]
    rw [hu] at ctr
    simp only at ctr
    have hb' : ¬ (65535 : Int) < (x : Int) := by omega
    have hs' : ¬ ((l.length : Int) + 1) < (x : Int) + 5 := by omega
    have hw' : IntKind.i64.wrap (x : Int) = (x : Int) := by rw [IntKind.wrap_i64]; omega
    have hbl : (b.length : Int) - ((l.length : Int) + 1) = ((encU x).length : Int) := by
      have := congrArg List.length h
      simp at this
      omega
    have hle : (encU x).length + x + 5 ≤ b.length := by
      have := congrArg List.length h
      simp at this
      omega
    have crr := fun w => rright_any w (b.take ((encU x).length + x + 5)) (by simp; omega)
    rw [rright_eq, hrr] at crr
    generalize (encU x).length = X at *
    have hle2 : (X : Int) + (x : Int) + 5 ≤ (b.length : Int) := by omega
    have hle3 : (0 : Int) ≤ (X : Int) + (x : Int) + 5 := by omega
    have e5 : ((X : Int) + (x : Int) + 5).toNat = X + x + 5 := by omega
    have hyy : ∀ h, (ByteArray.mk (k :: l).toArray)[0]'h = k := fun _ => rfl
    have hl5 : (x : Int) ≤ (l.length : Int) := by omega
    have hw1 : IntKind.i64.wrap (1 + (x : Int)) = ((x + 1 : Nat) : Int) := by rw [IntKind.wrap_i64]; omega
    have hw2 : (0 : Int) ≤ ((x + 1 : Nat) : Int) ∧ ((x + 1 : Nat) : Int) ≤ (l.length : Int) + 1 ∧ 1 ≤ ((x + 1 : Nat) : Int) := by omega
    have hw3 : (((x + 1 : Nat) : Int)).toNat = x + 1 := by omega
    simp only [Int.natCast_add, Int.cast_ofNat_Int] at hw1 hw2 hw3
    obtain ⟨hw4, hw5, hw6⟩ := hw2
    clear hm hu hrr h hll
    go_enter Tryd.func28, Tryd.ntmps28
    go_wp2_with fail
    refine (ctr _).mono ?_
    rintro e2 w1 ⟨rfl, hb1⟩
    have hA1 := (NB.rw_new w [.int .u8 0, .string ⟨#[]⟩] 28 rfl).below hb1
    have B1 := NB.bel (oneB _ _) hb1 (oneB w (.cells #[.int .u8 0, .string ⟨#[]⟩] 28)).size
    clear hb1
    have hR2 := NB.rw_new w1 [.string ⟨(k :: l).toArray⟩, .int .i64 0] 74 rfl
    have ob := oneB w1 (.cells #[.string ⟨(k :: l).toArray⟩, .int .i64 0] 74)
    have hA2 := hA1.below ob
    have B2 := NB.bel B1 ob B1.size
    have hne : w1.heap.size ≠ w.heap.size := by have := hA1.lt; omega
    simp only [List.toArray] at hR2
    obtain ⟨c0, c1, f0, f1⟩ := NB.rw2 hR2
    obtain ⟨d0, d1, g0, g1⟩ := NB.rw2 hA2
    have hltA := hA2.lt
    clear hA1 B1 ob
    go_wp2_with fail
    generalize w1.alloc (.cells #[.string ⟨(k :: l).toArray⟩, .int .i64 0] 74) = w2 at *
    refine (crr _).mono ?_
    rintro e3 w3 ⟨rfl, hb3⟩
    have hA3 := hA2.below hb3
    have hR3 := hR2.below hb3
    have B3 := NB.bel B2 hb3 B2.size
    clear c0 c1 f0 f1 d0 d1 g0 g1 hA2 hR2 B2 hb3 hltA
    go_wp2_with fail
    refine NB.wp_region_t [10] (by kernel_rfl) ?_
    have hA4 := hA3.below (dB w3)
    have hR4 := hR3.below (dB w3)
    have B4 := B3.drew
    clear hA3 hR3 B3
    generalize w3.drew = w4 at *
    obtain ⟨c0, c1, f0, f1⟩ := NB.rw2 hR4
    obtain ⟨d0, d1, g0, g1⟩ := NB.rw2 hA4
    have hltA := hA4.lt
    refine NB.t_p 0 rfl (by kernel_rfl) (fun K hK => ?_); go_simp; refine hK _ ?_; clear hK K
    refine NB.t_r 1 [2, 8, 10, 11, 12] rfl (by kernel_rfl) (by kernel_rfl) rfl _ (fun w' hw' => NB.run_op_load rfl rfl Tryd.underlying9 rfl c0 hw') (fun K hK => ?_); go_simp; refine hK _ ?_; clear hK K
    refine NB.t_p 2 rfl (by kernel_rfl) (fun K hK => ?_); go_simp; refine hK _ ?_; clear hK K
    refine NB.t_p 3 rfl (by kernel_rfl) (fun K hK => ?_); go_simp; refine hK _ ?_; clear hK K
    refine NB.t_r 4 [7, 8, 10, 11, 12] rfl (by kernel_rfl) (by kernel_rfl) rfl _ (fun w' hw' => NB.run_op_load rfl rfl Tryd.underlying9 rfl c0 hw') (fun K hK => ?_); go_simp; refine hK _ ?_; clear hK K
    refine NB.t_p 5 rfl (by kernel_rfl) (fun K hK => ?_); go_simp; refine hK _ ?_; clear hK K
    refine NB.t_p 6 rfl (by kernel_rfl) (fun K hK => ?_); go_simp; refine hK _ ?_; clear hK K
    refine NB.t_p 7 rfl (by kernel_rfl) (fun K hK => ?_); go_simp; refine hK _ ?_; clear hK K
    refine NB.t_p 8 rfl (by kernel_rfl) (fun K hK => ?_); go_simp; refine hK _ ?_; clear hK K
    refine NB.t_p 9 rfl (by kernel_rfl) (fun K hK => ?_); go_simp; refine hK _ ?_; clear hK K
    refine NB.t_w 10 rfl (by kernel_rfl) (by kernel_rfl) rfl (fun Q' hK => ?_)
    go_wp2_with fail
    refine NB.t_p 11 rfl (by kernel_rfl) (fun K hK => ?_); go_simp; refine hK _ ?_; clear hK K
    refine NB.t_p 12 rfl (by kernel_rfl) (fun K hK => ?_); go_simp; refine hK _ ?_; clear hK K
    refine NB.t_end (by kernel_rfl) ?_
    go_wp2_with fail
    have BF := (B4.setCell (p := ⟨w.heap.size, 0, none⟩) (Nat.le_refl _) (.int .u8 (k.toNat : Int))).setCell (p := ⟨w.heap.size, 1, none⟩) (Nat.le_refl _) (.string ⟨(l.take x).toArray⟩)
    refine bodyPost_ret (v := .tuple #[.agg #[.int .u8 (k.toNat : Int), .string ⟨(l.take x).toArray⟩], .int .i64 ((X : Int) + (x : Int) + 5), .int .i64 0]) (by simp [results, Tryd.results28, go_sem, d0, d1, hltA]) rfl ?_
    exact ⟨by simp, BF⟩
end Go.Proofs.YtadgokegjmigoaaDoor
