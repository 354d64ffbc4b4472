/- The references on commands, walked: readRows, all. -/
import Derived.Test.YtnkmlopgfgdajaaRca
import Derived.Test.YtnkmlopgfgdajaaCfg
namespace Go.Proofs.Ytnkmlopgfgdajaa
open Go.RowKit
open Go.NB (Rd RdU Kp Stp Dis Rr Rw oneB dB u64v rep cnt both)

theorem fail_b (r : Rr) (e : Int) : (r.fail e).b = r.b := by unfold Rr.fail; split <;> rfl
theorem ruint_left (r : Rr) : r.uint.1.b.length ≤ r.b.length := by
  have h1 := Rr.take_left r 1
  unfold Rr.uint
  simp only
  split
  · exact h1
  · rename_i x xs hx
    split
    · rw [fail_b]; exact h1
    · have h2 := Rr.take_left (r.take 1).1 x.toNat
      split
      · rw [fail_b]; exact Nat.le_trans h2 h1
      · exact Nat.le_trans h2 h1
theorem rsmall_left (r : Rr) (least below : Nat) : (r.small least below).1.b.length ≤ r.b.length := by
  unfold Rr.small
  split
  · exact ruint_left r
  · exact ruint_left r

theorem slTW2 : NB.SlT Try.prog 31 78 (.agg #[.int .i64 0, .slice none 0 0]) 2 32 :=
  ⟨Try.underlying31, info_parts (by kernel_rfl), rfl, by omega⟩

def rV (m : Rr) : List Value := [.string ⟨m.b.toArray⟩, .int .i64 m.e]
/-- Rows that the reference has read so far. -/
structure RowsQ (b0 g1 g2 : Nat) (m : Rr) (v : Value) (L : List Iw) (w : World) : Prop where
  r1 : Rw w g1 (rV m) 69
  r2 : Rw w g2 [.string ⟨#[]⟩, .int .i64 0] 69
  own : w.ownsRow b0 78 2 v L.length (iwsV L)
  it : ItsW (fun k => v.ownBlock = some k ∨ k = g1 ∨ k = g2) b0 w L
  d1 : ∀ k, v.ownBlock = some k → k ≠ g1 ∧ k ≠ g2
  d12 : g1 ≠ g2
section
variable {b0 g1 g2 : Nat} {m m' : Rr} {v : Value} {L : List Iw} {w w' : World}
theorem RowsQ.step (h : RowsQ b0 g1 g2 m v L w) (hk : Kp (fun k => k = g1) w w') (r1 : Rw w' g1 (rV m') 69) : RowsQ b0 g1 g2 m' v L w' where
  r1 := r1
  r2 := h.r2.keep hk (fun e => h.d12 e.symm)
  own := hk.own h.own (fun k e e2 => (h.d1 k e).1 e2)
  it := h.it.kp hk (fun k e => .inr (.inl e)) (fun k hk => .inl hk)
  d1 := h.d1
  d12 := h.d12
theorem RowsQ.below (h : RowsQ b0 g1 g2 m v L w) (hb : Below w.heap.size w w') : RowsQ b0 g1 g2 m v L w' :=
  h.step ((Kp.of_below (F := fun _ => False) hb).imp (fun _ hk => hk.elim)) (h.r1.below hb)
theorem RowsQ.setR (h : RowsQ b0 g1 g2 m v L w) (m' : Rr) : RowsQ b0 g1 g2 m' v L ((w.setCell ⟨g1, 0, none⟩ (.string ⟨m'.b.toArray⟩)).setCell ⟨g1, 1, none⟩ (.int .i64 m'.e)) :=
  h.step (((Kp.refl (fun k => k = g1) w).setCell (x := ⟨g1, 0, none⟩) (.inl rfl) _).setCell (x := ⟨g1, 1, none⟩) (.inl rfl) _) ((h.r1.set 0 _).set 1 _)

/-- While a row's numbers are read. -/
structure LensQ (b0 g1 g2 : Nat) (m : Rr) (v : Value) (L : List Iw) (g7 : Nat) (s : Int) (vL : Value) (xs : List Nat) (w : World) : Prop where
  r1 : Rw w g1 (rV m) 69
  r2 : Rw w g2 [.string ⟨#[]⟩, .int .i64 0] 69
  own : w.ownsRow b0 78 2 v L.length (iwsV L)
  it : ItsW (fun k => v.ownBlock = some k ∨ k = g1 ∨ k = g2 ∨ k = g7 ∨ vL.ownBlock = some k) b0 w L
  row : Rw w g7 [.int .i64 s, vL] 78
  ownL : w.ownsRow b0 24 1 vL xs.length (xs.map u64v)
  x64 : ∀ x ∈ xs, x < 18446744073709551616
  d1 : ∀ k, v.ownBlock = some k → k ≠ g1 ∧ k ≠ g2 ∧ k ≠ g7 ∧ vL.ownBlock ≠ some k
  d2 : g7 ≠ g1 ∧ g7 ≠ g2
  d3 : ∀ k, vL.ownBlock = some k → k ≠ g1 ∧ k ≠ g2 ∧ k ≠ g7
  d12 : g1 ≠ g2
  b7 : b0 ≤ g7
variable {g7 : Nat} {s s' : Int} {vL vL' v' : Value} {xs : List Nat}
theorem LensQ.start (h : RowsQ b0 g1 g2 m v L w) (hb : b0 ≤ w.heap.size) (s : Int) : LensQ b0 g1 g2 m v L w.heap.size s (.slice none 0 0) [] (w.alloc (.cells #[.int .i64 s, .slice none 0 0] 78)) where
  r1 := h.r1.below (oneB _ _)
  r2 := h.r2.below (oneB _ _)
  own := NB.own_keep h.own (oneB _ _)
  it := h.it.kp (K := fun _ => False) (Kp.of_below (oneB _ _)) (fun _ hk => hk.elim) (fun k hk => by
    rcases hk with hk | hk | hk | hk | hk
    · exact .inl (.inl hk)
    · exact .inl (.inr (.inl hk))
    · exact .inl (.inr (.inr hk))
    · exact .inr (by omega)
    · cases hk)
  row := NB.rw_new w [.int .i64 s, .slice none 0 0] 78 rfl
  ownL := ⟨rfl, .inl ⟨rfl, rfl⟩⟩
  x64 := fun x hx => nomatch hx
  d1 := fun k e => ⟨(h.d1 k e).1, (h.d1 k e).2, by have := (h.own.lt k e).2; omega, fun e2 => nomatch e2⟩
  d2 := ⟨by have := h.r1.lt; omega, by have := h.r2.lt; omega⟩
  d3 := fun k e => nomatch e
  d12 := h.d12
  b7 := hb
theorem LensQ.step (h : LensQ b0 g1 g2 m v L g7 s vL xs w) (hk : Kp (fun k => k = g1 ∨ k = g7) w w') (r1 : Rw w' g1 (rV m') 69) (row : Rw w' g7 [.int .i64 s', vL] 78) : LensQ b0 g1 g2 m' v L g7 s' vL xs w' where
  r1 := r1
  r2 := h.r2.keep hk (fun e => e.elim (fun e => h.d12 e.symm) (fun e => h.d2.2 e.symm))
  own := hk.own h.own (fun k e e2 => e2.elim (h.d1 k e).1 (h.d1 k e).2.2.1)
  it := h.it.kp hk (fun k e => e.elim (fun e => .inr (.inl e)) (fun e => .inr (.inr (.inr (.inl e))))) (fun k hk => .inl hk)
  row := row
  ownL := hk.own h.ownL (fun k e e2 => e2.elim (h.d3 k e).1 (h.d3 k e).2.2)
  x64 := h.x64
  d1 := h.d1
  d2 := h.d2
  d3 := h.d3
  d12 := h.d12
  b7 := h.b7
theorem LensQ.below (h : LensQ b0 g1 g2 m v L g7 s vL xs w) (hb : Below w.heap.size w w') : LensQ b0 g1 g2 m v L g7 s vL xs w' :=
  h.step ((Kp.of_below (F := fun _ => False) hb).imp (fun _ hk => hk.elim)) (h.r1.below hb) (h.row.below hb)
theorem LensQ.setR (h : LensQ b0 g1 g2 m v L g7 s vL xs w) (m' : Rr) : LensQ b0 g1 g2 m' v L g7 s vL xs ((w.setCell ⟨g1, 0, none⟩ (.string ⟨m'.b.toArray⟩)).setCell ⟨g1, 1, none⟩ (.int .i64 m'.e)) :=
  h.step (((Kp.refl (fun k => k = g1 ∨ k = g7) w).setCell (x := ⟨g1, 0, none⟩) (.inl (.inl rfl)) _).setCell (x := ⟨g1, 1, none⟩) (.inl (.inl rfl)) _) ((h.r1.set 0 _).set 1 _) ((h.row.other h.d2.1 0 _).other h.d2.1 1 _)
theorem LensQ.setS (h : LensQ b0 g1 g2 m v L g7 s vL xs w) (s' : Int) : LensQ b0 g1 g2 m v L g7 s' vL xs (w.setCell ⟨g7, 0, none⟩ (.int .i64 s')) :=
  h.step ((Kp.refl (fun k => k = g1 ∨ k = g7) w).setCell (x := ⟨g7, 0, none⟩) (.inl (.inr rfl)) _) (h.r1.other (fun e => h.d2.1 e.symm) 0 _) (h.row.set 0 _)
/-- One more number, and its store. -/
theorem LensQ.app (h : LensQ b0 g1 g2 m v L g7 s vL xs w) {y : Nat} (hy : y < 18446744073709551616) (hg : w.grownBy w' vL.ownBlock) (ho : w'.ownsRow b0 24 1 vL' (xs.length + 1) (xs.map u64v ++ [y].map u64v)) (hv : ∀ k, vL'.ownBlock = some k → vL.ownBlock = some k ∨ w.heap.size ≤ k) :
    LensQ b0 g1 g2 m v L g7 s vL' (xs ++ [y]) (w'.setCell ⟨g7, 1, none⟩ vL') := by
  have k1 : Kp (fun k => vL.ownBlock = some k) w w' := (Kp.refl _ w).grown hg (fun k e => .inl e)
  have k2 : Kp (fun k => vL.ownBlock = some k ∨ k = g7) w (w'.setCell ⟨g7, 1, none⟩ vL') := (k1.imp (fun k hk => .inl hk)).setCell (.inl (.inr rfl)) vL'
  have hlt7 := h.row.lt
  have row1 : Rw w' g7 [.int .i64 s, vL] 78 := h.row.keep k1 (fun e => (h.d3 _ e).2.2 rfl)
  have hne : ∀ k, vL'.ownBlock = some k → k ≠ g1 ∧ k ≠ g2 ∧ k ≠ g7 := fun k e => by
    rcases hv k e with e2 | e2
    · exact h.d3 k e2
    · have h1 := h.r1.lt; have h2 := h.r2.lt
      exact ⟨by omega, by omega, by omega⟩
  refine ⟨h.r1.keep k2 (fun hk => ?_), h.r2.keep k2 (fun hk => ?_), k2.own h.own (fun k e hk => ?_), h.it.kp k2 (fun k hk => ?_) (fun k hk => ?_), row1.set 1 vL', ?_, ?_, fun k e => ⟨(h.d1 k e).1, (h.d1 k e).2.1, (h.d1 k e).2.2.1, fun e2 => ?_⟩, h.d2, hne, h.d12, h.b7⟩
  · rcases hk with hk | hk
    · exact (h.d3 _ hk).1 rfl
    · exact h.d2.1 hk.symm
  · rcases hk with hk | hk
    · exact (h.d3 _ hk).2.1 rfl
    · exact h.d2.2 hk.symm
  · rcases hk with hk | hk
    · exact (h.d1 k e).2.2.2 hk
    · exact (h.d1 k e).2.2.1 hk
  · rcases hk with hk | hk
    · exact .inr (.inr (.inr (.inr hk)))
    · exact .inr (.inr (.inr (.inl hk)))
  · rcases hk with hk | hk | hk | hk | hk
    · exact .inl (.inl hk)
    · exact .inl (.inr (.inl hk))
    · exact .inl (.inr (.inr (.inl hk)))
    · exact .inl (.inr (.inr (.inr (.inl hk))))
    · exact (hv k hk).imp (fun e => .inr (.inr (.inr (.inr e)))) id
  · rw [List.length_append, List.map_append]
    exact (((Kp.refl (fun k => k = g7) w').setCell (x := ⟨g7, 1, none⟩) (.inl rfl) vL') : Kp (fun k => k = g7) w' _).own ho (fun k e hk => (hne k e).2.2 hk)
  · intro x hx
    rcases List.mem_append.1 hx with hx | hx
    · exact h.x64 x hx
    · obtain rfl : x = y := by simpa using hx
      exact hy
  · rcases hv k e2 with e3 | e3
    · exact (h.d1 k e).2.2.2 e3
    · have := (h.own.lt k e).2; omega
/-- The row is done. -/
theorem LensQ.done {aL : Option Addr} {cL : Nat} (h : LensQ b0 g1 g2 m v L g7 s (.slice aL xs.length cL) xs w) (o : Obj) (hg : (w.alloc o).grownBy w' v.ownBlock) (ho : w'.ownsRow b0 78 2 v' (L.length + 1) (iwsV L ++ iwV ⟨s, aL, xs.length, cL, xs⟩)) (hv : ∀ k, v'.ownBlock = some k → v.ownBlock = some k ∨ (w.alloc o).heap.size ≤ k) :
    RowsQ b0 g1 g2 m v' (L ++ [⟨s, aL, xs.length, cL, xs⟩]) w' := by
  have J := h.below (oneB w o)
  have k1 : Kp (fun k => v.ownBlock = some k) (w.alloc o) w' := (Kp.refl _ _).grown hg (fun k e => .inl e)
  have hL1 := k1.own J.ownL (fun k e e2 => (J.d1 k e2).2.2.2 e)
  refine ⟨J.r1.keep k1 (fun e => (J.d1 _ e).1 rfl), J.r2.keep k1 (fun e => (J.d1 _ e).2.1 rfl), by rw [List.length_append, ← iws_snoc]; exact ho, ?_, fun k e => ?_, J.d12⟩
  · intro x hx
    rcases List.mem_append.1 hx with hx | hx
    · exact (J.it.kp k1 (fun k hk => .inl hk) (fun k hk => by
        rcases hk with hk | hk | hk
        · exact (hv k hk).imp (fun e => .inl e) id
        · exact .inl (.inr (.inl hk))
        · exact .inl (.inr (.inr (.inl hk))))) x hx
    · obtain rfl : x = _ := by simpa using hx
      obtain ⟨a1, c1, e1, hr, hlo, hob⟩ := NB.rd_of_own hL1
      cases e1
      refine ⟨⟨hr, J.x64⟩, fun b o e => ⟨(hlo b o e).1, (hlo b o e).2, fun hk => ?_⟩⟩
      have eb : (Value.slice aL xs.length cL).ownBlock = some b := by rw [hob, show aL = some ⟨b, o, none⟩ from e]; rfl
      rcases hk with hk | hk | hk
      · rcases hv b hk with e2 | e2
        · exact (J.d1 b e2).2.2.2 eb
        · have := (J.ownL.lt b eb).2; omega
      · exact (J.d3 b eb).1 hk
      · exact (J.d3 b eb).2.1 hk
  · rcases hv k e with e2 | e2
    · exact ⟨(J.d1 k e2).1, (J.d1 k e2).2.1⟩
    · have h1 := J.r1.lt; have h2 := J.r2.lt
      exact ⟨by omega, by omega⟩
end

/-- In blocks from one on. -/
def FarW2 (b0 : Nat) (a : Option Addr) (L : List Iw) : Prop := (∀ b o, a = some ⟨b, o, none⟩ → b0 ≤ b) ∧ ∀ x ∈ L, ∀ b o, x.a = some ⟨b, o, none⟩ → b0 ≤ b
/-- A reader and rows, in new memory. -/
def RefRows (w : World) (r : Rr × List Rl) (e : Ending) (w' : World) : Prop :=
  ∃ a c L, e = .returned (.tuple #[.agg #[.string ⟨r.1.b.toArray⟩, .int .i64 r.1.e], .slice a (List.length L) c]) ∧ RdW w' a L.length c L ∧ L.map rlOf = r.2 ∧ Below w.heap.size w w' ∧ FarW2 w.heap.size a L

set_option maxRecDepth 100000 in
set_option maxHeartbeats 4000000 in
theorem rrows_any (w : World) (m : Rr) (hl : m.b.length ≤ 100000000) :
    Calls Try.prog 31 #[.agg #[.string ⟨m.b.toArray⟩, .int .i64 m.e]] w (RefRows w (rowsP m)) := by
  have hN := small_lt m 9 (by omega)
  have hl1 := rsmall_left m 0 9
  have c1 := fun w => rsmall_any w m 0 9 0 9 rfl rfl (by omega) hl
  obtain ⟨R, hR⟩ : ∃ R, R = rowsP m := ⟨_, rfl⟩
  rw [← hR]
  unfold rowsP cnt at hR
  unfold RefSI at c1
  generalize m.small 0 9 = S1 at *
  obtain ⟨r1, N⟩ := S1
  simp only at hN hR hl1 c1
  have HR := Go.Lib.hid hR; have HC1 := Go.Lib.hid c1
  clear hR c1
  have rA := NB.rw_new w [.string ⟨m.b.toArray⟩, .int .i64 m.e] 69 rfl
  have obA := oneB w (.cells #[.string ⟨m.b.toArray⟩, .int .i64 m.e] 69)
  have rB := NB.rw_new (w.alloc (.cells #[.string ⟨m.b.toArray⟩, .int .i64 m.e] 69)) [.string ⟨#[]⟩, .int .i64 0] 69 rfl
  have obB := oneB (w.alloc (.cells #[.string ⟨m.b.toArray⟩, .int .i64 m.e] 69)) (.cells #[.string ⟨#[]⟩, .int .i64 0] 69)
  simp only [List.toArray] at rA rB
  have rA2 := rA.below obB
  have B2 := NB.bel obA obB obA.size
  have hsz : (w.alloc (.cells #[.string ⟨m.b.toArray⟩, .int .i64 m.e] 69)).heap.size = w.heap.size + 1 := by simp
  rw [hsz] at rB
  clear rA obA obB hsz
  go_enter Try.func31, Try.ntmps31
  go_wp2_with fail
  refine (HC1.out _).mono ?_
  rintro e w1 ⟨rfl, hb1⟩
  have B3 := NB.bel B2 hb1 B2.size
  have I0 : RowsQ w.heap.size w.heap.size (w.heap.size + 1) m (.slice none 0 0) [] w1 := ⟨rA2.below hb1, rB.below hb1, ⟨rfl, .inl ⟨rfl, rfl⟩⟩, (fun x hx => nomatch hx), (fun k e => nomatch e), by omega⟩
  clear rA2 rB B2 hb1 HC1
  obtain ⟨c0, c1, f0, f1⟩ := NB.rw2 I0.r1
  have I := I0.setR r1
  have BI : Below w.heap.size w ((w1.setCell ⟨w.heap.size, 0, none⟩ (.string ⟨r1.b.toArray⟩)).setCell ⟨w.heap.size, 1, none⟩ (.int .i64 r1.e)) := (B3.setCell (p := ⟨w.heap.size, 0, none⟩) (Nat.le_refl _) _).setCell (p := ⟨w.heap.size, 1, none⟩) (Nat.le_refl _) _
  clear I0 B3
  go_wp2_with fail
  generalize (w1.setCell ⟨w.heap.size, 0, none⟩ (.string ⟨r1.b.toArray⟩)).setCell ⟨w.heap.size, 1, none⟩ (.int .i64 r1.e) = w2 at *
  clear c0 c1 f0 f1
  have hl2 : r1.b.length ≤ 100000000 := by omega
  go_loopw [4, 6] (fun x i wr => ∃ (k : Nat) (mk : Rr) (L : List Iw) (a : Option Addr) (c : Nat), k ≤ N ∧ i = .int .i64 (k : Int) ∧ x = .slice a L.length c ∧ RowsQ w.heap.size w.heap.size (w.heap.size + 1) mk (.slice a L.length c) L wr ∧ Below w.heap.size w wr ∧ (mk, L.map rlOf) = rep rowP k r1 ∧ L.length = k ∧ mk.b.length ≤ 100000000) (fun _ i _ => N - (intOf i).toNat)
  case atStart => exact ⟨0, r1, [], none, 0, by omega, rfl, rfl, I, BI, rfl, rfl, hl2⟩
  case round =>
    clear I BI hl2
    obtain ⟨k, mk, L, a, c, hk, rfl, rfl, I, B, hrep, hLk, hlm⟩ := hrel
    have HREP := Go.Lib.hid hrep; have HLK := Go.Lib.hid hLk
    have hL8 : L.length ≤ 8 := by omega
    clear hrep hLk
    by_cases hlt : k < N
    case neg =>
      have hki : ¬ (k : Int) < (N : Int) := by omega
      obtain rfl : k = N := by omega
      obtain ⟨c0, c1, f0, f1⟩ := NB.rw2 I.r1
      obtain ⟨d0, d1, g0, g1⟩ := NB.rw2 I.r2
      have hlt1 := I.r1.lt
      have hlt2 := I.r2.lt
      go_wp2_with fail
      have kz := (((Kp.refl (fun k => k = w.heap.size + 1) wr).setCell (x := ⟨w.heap.size + 1, 0, none⟩) (.inl rfl) (.string ⟨mk.b.toArray⟩)).setCell (x := ⟨w.heap.size + 1, 1, none⟩) (.inl rfl) (.int .i64 mk.e))
      have own2 := kz.own I.own (fun k e e2 => (I.d1 k e).2 e2)
      have it2 := I.it.kp kz (fun k e => .inr (.inr e)) (fun k hk => .inl hk)
      have r29 := (I.r2.set 0 (.string ⟨mk.b.toArray⟩)).set 1 (.int .i64 mk.e)
      simp only [List.set] at r29
      have B9 : Below w.heap.size w ((wr.setCell ⟨w.heap.size + 1, 0, none⟩ (.string ⟨mk.b.toArray⟩)).setCell ⟨w.heap.size + 1, 1, none⟩ (.int .i64 mk.e)) := (B.setCell (p := ⟨w.heap.size + 1, 0, none⟩) (by simp) _).setCell (p := ⟨w.heap.size + 1, 1, none⟩) (by simp) _
      clear kz
      generalize (wr.setCell ⟨w.heap.size + 1, 0, none⟩ (.string ⟨mk.b.toArray⟩)).setCell ⟨w.heap.size + 1, 1, none⟩ (.int .i64 mk.e) = w9 at *
      obtain ⟨e0, e1, _⟩ := NB.rw2 r29
      have hlt9 := r29.lt
      refine bodyPost_ret (v := .tuple #[.agg #[.string ⟨mk.b.toArray⟩, .int .i64 mk.e], .slice a L.length c]) (by simp [results, Try.results31, go_sem, e0, e1, hlt9]) rfl ?_
      obtain ⟨a1, c1', e1', hr, hlo, _⟩ := NB.rd_of_own own2
      cases e1'
      have hq := HREP.out
      exact ⟨a, c, L, by rw [HR.out, ← hq], ⟨hr, fun x hx => (it2 x hx).1⟩, by rw [HR.out, ← hq], B9, fun b o e => (hlo b o e).1, fun x hx b o e => ((it2 x hx).2 b o e).1⟩
    have hki : (k : Int) < (N : Int) := by omega
    have c2 := fun w => rsmall_any w mk 0 8 0 8 rfl rfl (by omega) hlm
    have hs8 := small_lt mk 8 (by omega)
    have hlm2 := rsmall_left mk 0 8
    obtain ⟨Q, hQ1⟩ : ∃ Q, rowP mk = Q := ⟨_, rfl⟩
    have hQ : Q = rowP mk := hQ1.symm
    have hQ2 : rep rowP (k + 1) r1 = (Q.1, L.map rlOf ++ [Q.2]) := by rw [NB.rep_snoc, ← HREP.out, hQ1]
    have HQ2 := Go.Lib.hid hQ2
    unfold rowP both cnt at hQ
    simp only at hQ
    clear hQ1 hQ2
    unfold RefSI at c2
    generalize mk.small 0 8 = S2 at *
    obtain ⟨m2, s⟩ := S2
    simp only at hs8 hQ c2 hlm2
    have hl3 : m2.b.length ≤ 100000000 := by omega
    have h35 := small_lt m2 5 (by omega)
    have c3 := fun w => rsmall_any w m2 0 5 0 5 rfl rfl (by omega) hl3
    have hlm3 := rsmall_left m2 0 5
    unfold RefSI at c3
    generalize m2.small 0 5 = S3 at *
    obtain ⟨m3, K⟩ := S3
    simp only at h35 hQ c3 hlm3
    have hl4 : m3.b.length ≤ 100000000 := by omega
    have HQ := Go.Lib.hid hQ; have HC2 := Go.Lib.hid c2; have HC3 := Go.Lib.hid c3
    clear hQ c2 c3 hlm2 hlm3
    obtain ⟨c0, c1, f0, f1⟩ := NB.rw2 I.r1
    have J := LensQ.start I B.size 0
    have BJ := B.alloc B.size (.cells #[.int .i64 0, .slice none 0 0] 78)
    obtain ⟨e0, e1, i0, i1⟩ := NB.rw2 J.r1
    clear I B
    go_wp2_with fail
    clear c0 c1 f0 f1 e0 e1 i0 i1
    generalize wr.alloc (.cells #[.int .i64 0, .slice none 0 0] 78) = w3 at *
    generalize wr.heap.size = g7 at *
    refine (HC2.out _).mono ?_
    rintro e w4 ⟨rfl, hb4⟩
    have J4 := J.below hb4
    have B4 := NB.bel BJ hb4 BJ.size
    have J5 := J4.setR m2
    have J6 := J5.setS (s : Int)
    have B6 : Below w.heap.size w (((w4.setCell ⟨w.heap.size, 0, none⟩ (.string ⟨m2.b.toArray⟩)).setCell ⟨w.heap.size, 1, none⟩ (.int .i64 m2.e)).setCell ⟨g7, 0, none⟩ (.int .i64 (s : Int))) := ((B4.setCell (p := ⟨w.heap.size, 0, none⟩) (Nat.le_refl _) _).setCell (p := ⟨w.heap.size, 1, none⟩) (Nat.le_refl _) _).setCell (p := ⟨g7, 0, none⟩) J.b7 _
    obtain ⟨c0, c1, f0, f1⟩ := NB.rw2 J4.r1
    obtain ⟨d0, d1, h0, h1⟩ := NB.rw2 J5.row
    obtain ⟨e0, e1, i0, i1⟩ := NB.rw2 J6.r1
    clear J hb4 J4 J5 B4 HC2 BJ
    go_wp2_with fail
    clear c0 c1 f0 f1 d0 d1 h0 h1 e0 e1 i0 i1
    generalize ((w4.setCell ⟨w.heap.size, 0, none⟩ (.string ⟨m2.b.toArray⟩)).setCell ⟨w.heap.size, 1, none⟩ (.int .i64 m2.e)).setCell ⟨g7, 0, none⟩ (.int .i64 (s : Int)) = w5 at *
    refine (HC3.out _).mono ?_
    rintro e w6 ⟨rfl, hb6⟩
    have J7 := J6.below hb6
    have B7 := NB.bel B6 hb6 B6.size
    have J8 := J7.setR m3
    have B8 : Below w.heap.size w ((w6.setCell ⟨w.heap.size, 0, none⟩ (.string ⟨m3.b.toArray⟩)).setCell ⟨w.heap.size, 1, none⟩ (.int .i64 m3.e)) := (B7.setCell (p := ⟨w.heap.size, 0, none⟩) (Nat.le_refl _) _).setCell (p := ⟨w.heap.size, 1, none⟩) (Nat.le_refl _) _
    obtain ⟨c0, c1, f0, f1⟩ := NB.rw2 J7.r1
    clear J6 hb6 J7 B7 B6 HC3
    obtain ⟨wo, rfl⟩ : ∃ wo : World, wo = wr := ⟨_, rfl⟩
    go_wp2_with fail
    clear c0 c1 f0 f1
    generalize (w6.setCell ⟨w.heap.size, 0, none⟩ (.string ⟨m3.b.toArray⟩)).setCell ⟨w.heap.size, 1, none⟩ (.int .i64 m3.e) = w7 at *
    go_loopw [9] (fun y wi => ∃ (i : Nat) (mi : Rr) (xs : List Nat) (aL : Option Addr) (cL : Nat), i ≤ K ∧ y = .int .i64 (i : Int) ∧ LensQ w.heap.size w.heap.size (w.heap.size + 1) mi (.slice a L.length c) L g7 (s : Int) (.slice aL xs.length cL) xs wi ∧ Below w.heap.size w wi ∧ (mi, xs) = rep Rr.uint i m3 ∧ xs.length = i ∧ mi.b.length ≤ 100000000) (fun y _ => K - (intOf y).toNat)
    case atStart => exact ⟨0, m3, [], none, 0, by omega, rfl, J8, B8, rfl, rfl, hl4⟩
    case round =>
      clear J8 B8 hl4
      obtain ⟨i, mi, xs, aL, cL, hi, rfl, J, B, hrp, hxi, hli⟩ := hrel
      have HRP := Go.Lib.hid hrp; have HXI := Go.Lib.hid hxi
      have hx4 : xs.length ≤ 4 := by omega
      clear hrp hxi
      by_cases hil : i < K
      case neg =>
        have hii : ¬ (i : Int) < (K : Int) := by omega
        obtain rfl : i = K := by omega
        have hq : Q = (mi, ⟨(s : Int), xs⟩) := by rw [HQ.out, ← HRP.out]
        obtain ⟨d0, d1, _⟩ := NB.rw2 J.row
        have own1 := NB.own_keep J.own (oneB wr (.cells #[.int .i64 (s : Int), .slice aL xs.length cL] 78))
        have B1 := B.alloc B.size (.cells #[.int .i64 (s : Int), .slice aL xs.length cL] 78)
        have HQQ := Go.Lib.hid hq
        clear hq
        go_wp2_with (at_builtin; refine NB.wpList_append_at rfl (.tmp 49) (.tmp 51) 31 rfl w.heap.size slTW2 _ L.length (iwsV L) rfl own1 _ 1 1 (iwV ⟨s, aL, xs.length, cL, xs⟩) rfl (iw_rd wr s aL xs.length cL xs _ rfl) (iw_one _) (by omega) (by unfold maxLen; omega) B1.size ?_; intro v6 w6 ho6 hg6 hv6)
        have J6 := J.done _ hg6 ho6 hv6
        have B6 := B1.grown hg6 B1.size (fun k e => (own1.lt k e).1)
        obtain ⟨a6, c6, rfl, _⟩ := NB.rd_of_own ho6
        go_roundw
        case rel =>
          exact ⟨k + 1, mi, L ++ [⟨s, aL, xs.length, cL, xs⟩], a6, c6, by omega, by go_num, by rw [List.length_append]; rfl, by rw [List.length_append]; exact J6, B6, by rw [HQ2.out, HQQ.out, List.map_append]; rfl, by rw [List.length_append, HLK.out]; rfl, hli⟩
        case measure => simp [intOf]; omega
      have hii : (i : Int) < (K : Int) := by omega
      have cu := fun w => refRead_any w mi hli
      unfold refR RefRU at cu
      have hul := Rr.uint_lt mi
      have hlu := ruint_left mi
      have hsn : rep Rr.uint (i + 1) m3 = (mi.uint.1, xs ++ [mi.uint.2]) := by rw [NB.rep_snoc, ← HRP.out]
      generalize mi.uint = U at *
      obtain ⟨mu, y⟩ := U
      simp only at cu hul hsn hlu
      have HU := Go.Lib.hid cu; have HSN := Go.Lib.hid hsn
      clear cu hsn
      obtain ⟨c0, c1, f0, f1⟩ := NB.rw2 J.r1
      go_wp2_with fail
      clear c0 c1 f0 f1
      refine (HU.out _).mono ?_
      rintro e w2' ⟨rfl, hb2⟩
      have J2 := J.below hb2
      have B2 := NB.bel B hb2 B.size
      have J3 := J2.setR mu
      have B3 : Below w.heap.size w ((w2'.setCell ⟨w.heap.size, 0, none⟩ (.string ⟨mu.b.toArray⟩)).setCell ⟨w.heap.size, 1, none⟩ (.int .i64 mu.e)) := (B2.setCell (p := ⟨w.heap.size, 0, none⟩) (Nat.le_refl _) _).setCell (p := ⟨w.heap.size, 1, none⟩) (Nat.le_refl _) _
      obtain ⟨c0, c1, f0, f1⟩ := NB.rw2 J2.r1
      obtain ⟨d0, d1, h0, h1⟩ := NB.rw2 J3.row
      have own2 := NB.own_keep J3.ownL (oneB _ (.cells #[.int .u64 (y : Int)] 24))
      have B4 := B3.alloc B3.size (.cells #[.int .u64 (y : Int)] 24)
      clear J hb2 J2 B2 B HU
      go_wp2_with (at_builtin; refine NB.wpList_append_at rfl (.tmp 44) (.tmp 46) 48 rfl w.heap.size slTU _ xs.length (xs.map u64v) rfl own2 _ 1 1 ([y].map u64v) rfl (u64_rd _ y _ (by simp)) (u64_one _) (by omega) (by unfold maxLen; omega) B4.size ?_; intro v6 w6 ho6 hg6 hv6; have J4 := J3.below (oneB _ (.cells #[.int .u64 (y : Int)] 24)); have J6 := J4.app hul hg6 ho6 hv6; have B6 := B4.grown hg6 B4.size (fun k e => (own2.lt k e).1); have row6 := J4.row.keep ((Kp.refl (fun k => (Value.slice aL xs.length cL).ownBlock = some k) _).grown hg6 (fun k e => .inl e)) (fun e => (J4.d3 _ e).2.2 rfl); have B7 := B6.setCell (p := ⟨g7, 1, none⟩) J3.b7 v6; clear d0 d1 h0 h1; obtain ⟨d0, d1, h0, h1⟩ := NB.rw2 row6; obtain ⟨a6, c6, rfl, _⟩ := NB.rd_of_own ho6; have HJ := Go.Lib.hid J6; have HB := Go.Lib.hid B7; clear J3 J4 J6 B3 B4 B6 B7 own2 ho6 hg6 hv6 row6)
      go_roundw
      case rel => exact ⟨i + 1, mu, xs ++ [y], a6, c6, by omega, by go_num, by rw [List.length_append]; exact HJ.out, HB.out, HSN.out.symm, by rw [List.length_append, HXI.out]; rfl, by omega⟩
      case measure => simp [intOf]; omega
end Go.Proofs.Ytnkmlopgfgdajaa
