/- The reader of conf: rows. -/
import Derived.Test.YtnkmlopgfgdajaaCfe
import Derived.Test.YtnkmlopgfgdajaaCfa
import Derived.Test.YtnkmlopgfgdajaaVcu
import Derived.Test.YtnkmlopgfgdajaaTrw
namespace Go.Proofs.Ytnkmlopgfgdajaa
open Go.RowKit
open Go.NB (Rd RdU Kp Stp Dis Rr Rw oneB dB u64v rep cnt both)

theorem slTW : NB.SlT Try.prog 25 50 (.agg #[.int .i64 0, .slice none 0 0]) 2 32 :=
  ⟨Try.underlying25, info_parts (by kernel_rfl), rfl, by omega⟩
theorem iws_snoc (l : List Iw) (x : Iw) : iwsV l ++ iwV x = iwsV (l ++ [x]) := by simp [iwsV]
theorem iw_one (x : Iw) : ∀ u ∈ iwV x, u.oneCell' = true := by
  intro u hu
  simp only [iwV, List.mem_cons, List.not_mem_nil, or_false] at hu
  rcases hu with rfl | rfl <;> rfl
theorem iw_rd (w : World) (s : Int) (a : Option Addr) (n c : Nat) (l : List Nat) (t : TypeId) {g : Nat} (hg : g = w.heap.size) : Rd 2 (w.alloc (.cells #[.int .i64 s, .slice a n c] t)) (some ⟨g, 0, none⟩) 1 1 (iwV ⟨s, a, n, c, l⟩) := NB.rd_new w #[.int .i64 s, .slice a n c] t 1 rfl (by unfold maxLen; omega) hg
theorem u64_rd (w : World) (x : Nat) (t : TypeId) {g : Nat} (hg : g = w.heap.size) : Rd 1 (w.alloc (.cells #[.int .u64 (x : Int)] t)) (some ⟨g, 0, none⟩) 1 1 ([x].map u64v) := NB.rd_new w #[.int .u64 (x : Int)] t 1 rfl (by unfold maxLen; omega) hg

def ItsW (F : Nat → Prop) (b0 : Nat) (W : World) (l : List Iw) : Prop := ∀ x ∈ l, RdU W x.a x.n x.c x.l ∧ ∀ b o, x.a = some ⟨b, o, none⟩ → b0 ≤ b ∧ b < W.heap.size ∧ ¬ F b
theorem ItsW.kp {F G K : Nat → Prop} {b0 : Nat} {W W' : World} {l : List Iw} (h : ItsW F b0 W l) (hk : Kp K W W') (hK : ∀ k, K k → F k) (hG : ∀ k, G k → F k ∨ W.heap.size ≤ k) : ItsW G b0 W' l := by
  intro x hx
  obtain ⟨h1, h2⟩ := h x hx
  refine ⟨⟨hk.rd h1.1 (fun b o e _ hf => (h2 b o e).2.2 (hK b hf)), h1.2⟩, fun b o e => ⟨(h2 b o e).1, Nat.lt_of_lt_of_le (h2 b o e).2.1 hk.size, fun hg => ?_⟩⟩
  rcases hG b hg with hf | hf
  · exact (h2 b o e).2.2 hf
  · have := (h2 b o e).2.1; omega

theorem stp_grown {F F' : Nat → Prop} {a b c : World} {row : Option Nat} (h : Stp F F' a b) (hg : b.grownBy c row) (hr : ∀ k, row = some k → a.heap.size ≤ k) : Stp F F' a c := ⟨h.kp.grown hg (fun k e => .inr (hr k e)), h.sub⟩
theorem stp_set {F F' : Nat → Prop} {a b : World} (h : Stp F F' a b) {x : Addr} (hx : a.heap.size ≤ x.block) (u : Value) : Stp F F' a (b.setCell x u) := ⟨h.kp.setCell (.inr hx) u, h.sub⟩

/-- The rows that were read so far. -/
structure RowsI (b0 base p g : Nat) (F : Nat → Prop) (m : Rr) (v : Value) (L : List Iw) (w : World) : Prop where
  rd : HasC w base p g F m
  own : w.ownsRow b0 50 2 v L.length (iwsV L)
  it : ItsW (fun k => F k ∨ v.ownBlock = some k) b0 w L
  d1 : ∀ k, v.ownBlock = some k → ¬ F k
section
variable {b0 base p g : Nat} {F F' : Nat → Prop} {m m' : Rr} {v : Value} {L : List Iw} {w w' : World}
theorem RowsI.step (h : RowsI b0 base p g F m v L w) (hC : HasC w' base p g F' m') (hS : Stp F F' w w') : RowsI b0 base p g F' m' v L w' where
  rd := hC
  own := hS.kp.own h.own (fun k e => h.d1 k e)
  it := h.it.kp hS.kp (fun k hk => .inl hk) (fun k hk => by
    rcases hk with hk | hk
    · exact (hS.sub k hk).imp .inl id
    · exact .inl (.inr hk))
  d1 := fun k e hf => (hS.sub k hf).elim (h.d1 k e) (fun hh => by have := (h.own.lt k e).2; omega)
theorem RowsI.below (h : RowsI b0 base p g F m v L w) (hb : Below w.heap.size w w') : RowsI b0 base p g F m v L w' where
  rd := h.rd.below hb
  own := NB.own_keep h.own hb
  it := h.it.kp (K := fun _ => False) (Kp.of_below hb) (fun _ hk => hk.elim) (fun k hk => .inl hk)
  d1 := h.d1

/-- While a row's numbers are read. -/
structure LensI (b0 base p g : Nat) (F : Nat → Prop) (m : Rr) (v : Value) (L : List Iw) (g4 : Nat) (s : Int) (vL : Value) (xs : List Nat) (w : World) : Prop where
  rd : HasC w base p g F m
  own : w.ownsRow b0 50 2 v L.length (iwsV L)
  it : ItsW (fun k => F k ∨ v.ownBlock = some k ∨ k = g4 ∨ vL.ownBlock = some k) b0 w L
  row : Rw w g4 [.int .i64 s, vL] 50
  ownL : w.ownsRow b0 24 1 vL xs.length (xs.map u64v)
  x64 : ∀ x ∈ xs, x < 18446744073709551616
  d1 : ∀ k, v.ownBlock = some k → ¬ F k ∧ k ≠ g4 ∧ vL.ownBlock ≠ some k
  d2 : ¬ F g4
  d3 : ∀ k, vL.ownBlock = some k → ¬ F k ∧ k ≠ g4
  b4 : b0 ≤ g4
variable {g4 : Nat} {s : Int} {vL vL' v' : Value} {xs : List Nat}
theorem LensI.start (h : RowsI b0 base p g F m v L w) (hb : b0 ≤ w.heap.size) (s : Int) : LensI b0 base p g F m v L w.heap.size s (.slice none 0 0) [] (w.alloc (.cells #[.int .i64 s, .slice none 0 0] 50)) where
  rd := h.rd.below (oneB _ _)
  own := NB.own_keep h.own (oneB _ _)
  it := h.it.kp (K := fun _ => False) (Kp.of_below (oneB _ _)) (fun _ hk => hk.elim) (fun k hk => by
    rcases hk with hk | hk | hk | hk
    · exact .inl (.inl hk)
    · exact .inl (.inr hk)
    · exact .inr (by omega)
    · cases hk)
  row := NB.rw_new w [.int .i64 s, .slice none 0 0] 50 rfl
  ownL := ⟨rfl, .inl ⟨rfl, rfl⟩⟩
  x64 := fun x hx => nomatch hx
  d1 := fun k e => ⟨h.d1 k e, by have := (h.own.lt k e).2; omega, fun e2 => nomatch e2⟩
  d2 := fun hf => by have := (h.rd.foot _ hf).2; omega
  d3 := fun k e => nomatch e
  b4 := hb
theorem LensI.num (h : LensI b0 base p g F m v L g4 s vL xs w) (hC : HasC w' base p g F' m') (hS : Stp F F' w w') : LensI b0 base p g F' m' v L g4 s vL xs w' where
  rd := hC
  own := hS.kp.own h.own (fun k e => (h.d1 k e).1)
  it := h.it.kp hS.kp (fun k hk => .inl hk) (fun k hk => by
    rcases hk with hk | hk
    · exact (hS.sub k hk).imp .inl id
    · exact .inl (.inr hk))
  row := h.row.keep hS.kp h.d2
  ownL := hS.kp.own h.ownL (fun k e => (h.d3 k e).1)
  x64 := h.x64
  d1 := fun k e => ⟨fun hf => (hS.sub k hf).elim (h.d1 k e).1 (fun hh => by have := (h.own.lt k e).2; omega), (h.d1 k e).2⟩
  d2 := fun hf => (hS.sub _ hf).elim h.d2 (fun hh => by have := h.row.lt; omega)
  d3 := fun k e => ⟨fun hf => (hS.sub k hf).elim (h.d3 k e).1 (fun hh => by have := (h.ownL.lt k e).2; omega), (h.d3 k e).2⟩
  b4 := h.b4
theorem LensI.below (h : LensI b0 base p g F m v L g4 s vL xs w) (hb : Below w.heap.size w w') : LensI b0 base p g F m v L g4 s vL xs w' :=
  h.num (h.rd.below hb) (Stp.of_below hb)
/-- One more number, and its store. -/
theorem LensI.app (h : LensI b0 base p g F m v L g4 s vL xs w) {y : Nat} (hy : y < 18446744073709551616) (hg : w.grownBy w' vL.ownBlock) (ho : w'.ownsRow b0 24 1 vL' (xs.length + 1) (xs.map u64v ++ [y].map u64v)) (hv : ∀ k, vL'.ownBlock = some k → vL.ownBlock = some k ∨ w.heap.size ≤ k) :
    LensI b0 base p g F m v L g4 s vL' (xs ++ [y]) (w'.setCell ⟨g4, 1, none⟩ vL') := by
  have k1 : Kp (fun k => vL.ownBlock = some k) w w' := (Kp.refl _ w).grown hg (fun k e => .inl e)
  have k2 : Kp (fun k => vL.ownBlock = some k ∨ k = g4) w (w'.setCell ⟨g4, 1, none⟩ vL') := (k1.imp (fun k hk => .inl hk)).setCell (.inl (.inr rfl)) vL'
  have hlt4 := h.row.lt
  have row1 : Rw w' g4 [.int .i64 s, vL] 50 := h.row.keep k1 (fun e => (h.d3 _ e).2 rfl)
  have hne : ∀ k, vL'.ownBlock = some k → k ≠ g4 := fun k e => by
    rcases hv k e with e2 | e2
    · exact (h.d3 k e2).2
    · omega
  refine ⟨h.rd.keep k2 (fun k hf hk => ?_), k2.own h.own (fun k e hk => ?_), h.it.kp k2 (fun k hk => ?_) (fun k hk => ?_), row1.set 1 vL', ?_, ?_, fun k e => ⟨(h.d1 k e).1, (h.d1 k e).2.1, fun e2 => ?_⟩, h.d2, fun k e => ⟨fun hf => ?_, hne k e⟩, h.b4⟩
  · rcases hk with hk | rfl
    · exact (h.d3 k hk).1 hf
    · exact h.d2 hf
  · rcases hk with hk | rfl
    · exact (h.d1 k e).2.2 hk
    · exact (h.d1 k e).2.1 rfl
  · rcases hk with hk | rfl
    · exact .inr (.inr (.inr hk))
    · exact .inr (.inr (.inl rfl))
  · rcases hk with hk | hk | hk | hk
    · exact .inl (.inl hk)
    · exact .inl (.inr (.inl hk))
    · exact .inl (.inr (.inr (.inl hk)))
    · exact (hv k hk).imp (fun e => .inr (.inr (.inr e))) id
  · rw [List.length_append, List.map_append]
    exact (((Kp.refl (fun k => k = g4) w').setCell (x := ⟨g4, 1, none⟩) (.inl rfl) vL') : Kp (fun k => k = g4) w' _).own ho (fun k e hk => hne k e hk)
  · intro x hx
    rcases List.mem_append.1 hx with hx | hx
    · exact h.x64 x hx
    · obtain rfl : x = y := by simpa using hx
      exact hy
  · rcases hv k e2 with e3 | e3
    · exact (h.d1 k e).2.2 e3
    · have := (h.own.lt k e).2; omega
  · rcases hv k e with e2 | e2
    · exact (h.d3 k e2).1 hf
    · have := (h.rd.foot k hf).2; omega
/-- The row is done. -/
theorem LensI.done {aL : Option Addr} {cL : Nat} (h : LensI b0 base p g F m v L g4 s (.slice aL xs.length cL) xs w) (o : Obj) (hg : (w.alloc o).grownBy w' v.ownBlock) (ho : w'.ownsRow b0 50 2 v' (L.length + 1) (iwsV L ++ iwV ⟨s, aL, xs.length, cL, xs⟩)) (hv : ∀ k, v'.ownBlock = some k → v.ownBlock = some k ∨ (w.alloc o).heap.size ≤ k) :
    RowsI b0 base p g F m v' (L ++ [⟨s, aL, xs.length, cL, xs⟩]) w' := by
  have J := h.below (oneB w o)
  have hsz := (oneB w o).size
  have k1 : Kp (fun k => v.ownBlock = some k) (w.alloc o) w' := (Kp.refl _ _).grown hg (fun k e => .inl e)
  have hL1 := k1.own J.ownL (fun k e e2 => (J.d1 k e2).2.2 e)
  refine ⟨J.rd.keep k1 (fun k hf hk => (J.d1 k hk).1 hf), by rw [List.length_append, ← iws_snoc]; exact ho, ?_, fun k e hf => ?_⟩
  · intro x hx
    rcases List.mem_append.1 hx with hx | hx
    · exact (J.it.kp k1 (fun k hk => .inr (.inl hk)) (fun k hk => by
        rcases hk with hk | hk
        · exact .inl (.inl hk)
        · exact (hv k hk).imp (fun e => .inr (.inl e)) id)) x hx
    · obtain rfl : x = _ := by simpa using hx
      obtain ⟨a1, c1, e1, hr, hlo, hob⟩ := NB.rd_of_own hL1
      cases e1
      refine ⟨⟨hr, J.x64⟩, fun b o e => ⟨(hlo b o e).1, (hlo b o e).2, fun hk => ?_⟩⟩
      have eb : (Value.slice aL xs.length cL).ownBlock = some b := by rw [hob, show aL = some ⟨b, o, none⟩ from e]; rfl
      rcases hk with hk | hk
      · exact (J.d3 b eb).1 hk
      · rcases hv b hk with e2 | e2
        · exact (J.d1 b e2).2.2 eb
        · have := (J.ownL.lt b eb).2; omega
  · rcases hv k e with e2 | e2
    · exact (J.d1 k e2).1 hf
    · have := (J.rd.foot k hf).2; omega
end

/-- Rows that are read, in new memory. -/
def RowsE (w : World) (base p g : Nat) (FC : Nat → Prop) (r : Rr × List Rl) (e : Ending) (w' : World) : Prop :=
  ∃ a c L FC', e = .returned (.slice a (List.length L) c) ∧ RdW w' a L.length c L ∧ L.map rlOf = r.2 ∧ HasC w' base p g FC' r.1 ∧ Stp FC FC' w w' ∧ (∀ b o, a = some ⟨b, o, none⟩ → w.heap.size ≤ b) ∧ (∀ x ∈ L, ∀ b o, x.a = some ⟨b, o, none⟩ → w.heap.size ≤ b)

theorem small_lt (r : Rr) (below : Nat) (h : 0 < below) : (r.small 0 below).2 < below := by
  unfold Rr.small
  by_cases h0 : r.uint.1.e = 0
  · by_cases hb : r.uint.2 < 0 ∨ below ≤ r.uint.2
    · rw [if_pos ⟨h0, hb⟩]; exact h
    · rw [if_neg (fun hh => hb hh.2)]; omega
  · rw [if_neg (fun hh => h0 hh.1), uint_zero h0]; exact h

set_option maxRecDepth 100000 in
set_option maxHeartbeats 4000000 in
theorem crows_any (w : World) (base p g : Nat) (FC : Nat → Prop) (m : Rr) (h : HasC w base p g FC m) :
    Calls Try.prog 25 #[.pointer (some ⟨g, 0, none⟩)] w (RowsE w base p g FC (rowsP m)) := by
  have hN := small_lt m 9 (by omega)
  have c1 := csmall_any 0 9 0 9 rfl rfl (by omega) h
  obtain ⟨R, hR⟩ : ∃ R, R = rowsP m := ⟨_, rfl⟩
  rw [← hR]
  unfold rowsP cnt at hR
  generalize m.small 0 9 = S1 at *
  obtain ⟨r1, N⟩ := S1
  simp only at hN hR
  have HR := Go.Lib.hid hR
  clear hR
  go_enter Try.func25, Try.ntmps25
  go_wp2_with fail
  refine c1.mono ?_
  rintro e w1 ⟨rfl, F1, hC1, hS1⟩
  simp only at hC1 ⊢
  clear c1 h
  have I0 : RowsI w.heap.size base p g F1 r1 (.slice none 0 0) [] w1 := ⟨hC1, ⟨rfl, .inl ⟨rfl, rfl⟩⟩, (fun x hx => nomatch hx), (fun k e => nomatch e)⟩
  clear hC1
  go_wp2_with fail
  go_loopw [3, 7] (fun x i wr => ∃ (k : Nat) (F : Nat → Prop) (mk : Rr) (L : List Iw) (a : Option Addr) (c : Nat), k ≤ N ∧ i = .int .i64 (k : Int) ∧ x = .slice a L.length c ∧ RowsI w.heap.size base p g F mk (.slice a L.length c) L wr ∧ Stp FC F w wr ∧ (mk, L.map rlOf) = rep rowP k r1 ∧ L.length = k) (fun _ i _ => N - (intOf i).toNat)
  case atStart => exact ⟨0, F1, r1, [], none, 0, by omega, rfl, rfl, I0, hS1, rfl, rfl⟩
  case round =>
    clear I0 hS1
    obtain ⟨k, F, mk, L, a, c, hk, rfl, rfl, I, hS, hrep, hLk⟩ := hrel
    have HREP := Go.Lib.hid hrep; have HLK := Go.Lib.hid hLk
    have hL8 : L.length ≤ 8 := by omega
    clear hrep hLk
    by_cases hlt : k < N
    case neg =>
      have hki : ¬ (k : Int) < (N : Int) := by omega
      obtain rfl : k = N := by omega
      go_wp2_with fail
      go_ret
      obtain ⟨a1, c1, e1, hr, hlo, _⟩ := NB.rd_of_own I.own
      cases e1
      have hq := HREP.out
      refine ⟨a, c, L, F, rfl, ⟨hr, fun x hx => (I.it x hx).1⟩, by rw [HR.out, ← hq], by rw [HR.out, ← hq]; exact I.rd, hS, fun b o e => (hlo b o e).1, fun x hx b o e => ((I.it x hx).2 b o e).1⟩
    have hki : (k : Int) < (N : Int) := by omega
    have c2 := csmall_any 0 8 0 8 rfl rfl (by omega) I.rd
    have hs8 := small_lt mk 8 (by omega)
    obtain ⟨Q, hQ1⟩ : ∃ Q, rowP mk = Q := ⟨_, rfl⟩
    have hQ : Q = rowP mk := hQ1.symm
    have hQ2 : rep rowP (k + 1) r1 = (Q.1, L.map rlOf ++ [Q.2]) := by rw [NB.rep_snoc, ← HREP.out, hQ1]
    have HQ2 := Go.Lib.hid hQ2
    unfold rowP both cnt at hQ
    simp only at hQ
    clear hQ1 hQ2
    generalize mk.small 0 8 = S2 at *
    obtain ⟨m2, s⟩ := S2
    simp only at hs8 hQ
    have h35 := small_lt m2 5 (by omega)
    have c3 := fun w FF hh => csmall_any (w := w) (base := base) (p := p) (g := g) (FC := FF) (m := m2) 0 5 0 5 rfl rfl (by omega) hh
    generalize m2.small 0 5 = S3 at *
    obtain ⟨m3, K⟩ := S3
    simp only at h35 hQ c3
    have HQ := Go.Lib.hid hQ; have HC3 := Go.Lib.hid c3
    clear hQ c3
    go_wp2_with fail
    refine c2.mono ?_
    rintro e w2 ⟨rfl, F2, hC2, hS2⟩
    simp only at hC2 ⊢
    have I2 := I.step hC2 hS2
    have hSS2 := hS.trans hS2
    have J := LensI.start I2 hSS2.size (s : Int)
    have hSJ := hSS2.below (oneB w2 (.cells #[.int .i64 (s : Int), .slice none 0 0] 50)) hSS2.size
    clear c2 I hC2 hS2 I2 hSS2 hS
    go_wp2_with fail
    generalize w2.alloc (.cells #[.int .i64 (s : Int), .slice none 0 0] 50) = w3 at *
    generalize w2.heap.size = g4 at *
    refine (HC3.out _ _ J.rd).mono ?_
    rintro e w4 ⟨rfl, F4, hC4, hS4⟩
    simp only at hC4 ⊢
    have J4 := J.num hC4 hS4
    have hSJ4 := hSJ.trans hS4
    clear J hC4 hS4 hSJ HC3
    obtain ⟨wo, rfl⟩ : ∃ wo : World, wo = wr := ⟨_, rfl⟩
    go_wp2_with fail
    go_loopw [14] (fun y wi => ∃ (i : Nat) (F' : Nat → Prop) (mi : Rr) (xs : List Nat) (aL : Option Addr) (cL : Nat), i ≤ K ∧ y = .int .i64 (i : Int) ∧ LensI w.heap.size base p g F' mi (.slice a L.length c) L g4 (s : Int) (.slice aL xs.length cL) xs wi ∧ Stp FC F' w wi ∧ (mi, xs) = rep Rr.uint i m3 ∧ xs.length = i) (fun y _ => K - (intOf y).toNat)
    case atStart => exact ⟨0, F4, m3, [], none, 0, by omega, rfl, J4, hSJ4, rfl, rfl⟩
    case round =>
      clear J4 hSJ4
      obtain ⟨i, F5, mi, xs, aL, cL, hi, rfl, J, hS, hrp, hxi⟩ := hrel
      have HRP := Go.Lib.hid hrp; have HXI := Go.Lib.hid hxi
      have hx4 : xs.length ≤ 4 := by omega
      clear hrp hxi
      by_cases hil : i < K
      case neg =>
        have hii : ¬ (i : Int) < (K : Int) := by omega
        obtain rfl : i = K := by omega
        have hq : Q = (mi, ⟨(s : Int), xs⟩) := by
          rw [HQ.out, ← HRP.out]
        obtain ⟨d0, d1, _⟩ := NB.rw2 J.row
        have B0 := hS.size
        have own1 := NB.own_keep J.own (oneB wr (.cells #[.int .i64 (s : Int), .slice aL xs.length cL] 50))
        have HQQ := Go.Lib.hid hq
        clear hq
        go_wp2_with (at_builtin; refine NB.wpList_append_at rfl (.tmp 24) (.tmp 26) 25 rfl w.heap.size slTW _ L.length (iwsV L) rfl own1 _ 1 1 (iwV ⟨s, aL, xs.length, cL, xs⟩) rfl (iw_rd wr s aL xs.length cL xs _ rfl) (iw_one _) (by omega) (by unfold maxLen; omega) (by simp; omega) ?_; intro v6 w6 ho6 hg6 hv6)
        have J6 := J.done _ hg6 ho6 hv6
        have hS6 := stp_grown (hS.below (oneB wr (.cells #[.int .i64 (s : Int), .slice aL xs.length cL] 50)) hS.size) hg6 (fun k e => (J.own.lt k e).1)
        obtain ⟨a6, c6, rfl, _⟩ := NB.rd_of_own ho6
        go_roundw
        case rel =>
          exact ⟨k + 1, F5, mi, L ++ [⟨s, aL, xs.length, cL, xs⟩], a6, c6, by omega, by go_num, by rw [List.length_append]; rfl, by rw [List.length_append]; exact J6, hS6, by rw [HQ2.out, HQQ.out, List.map_append]; rfl, by rw [List.length_append, HLK.out]; rfl⟩
        case measure => simp [intOf]; omega
      have hii : (i : Int) < (K : Int) := by omega
      go_wp2_with fail
      have cu := fun w FF hh => cnumber_any (w := w) (base := base) (p := p) (g := g) (FC := FF) (m := mi) hh
      have hul := Rr.uint_lt mi
      have hsn : rep Rr.uint (i + 1) m3 = (mi.uint.1, xs ++ [mi.uint.2]) := by rw [NB.rep_snoc, ← HRP.out]
      generalize mi.uint = U at *
      obtain ⟨mu, y⟩ := U
      simp only at cu hul hsn
      have HU := Go.Lib.hid cu; have HSN := Go.Lib.hid hsn
      clear cu hsn
      refine NB.wp_region_t [3, 5, 7] (by kernel_rfl) ?_
      have J1 := J.below (dB wr)
      have hS1 := hS.below (dB wr) hS.size
      clear J hS
      generalize wr.drew = w1 at *
      obtain ⟨d0, d1, f0, f1⟩ := NB.rw2 J1.row
      refine NB.t_p 0 rfl (by kernel_rfl) (fun K hK => ?_); go_simp; refine hK _ ?_; clear hK K
      refine NB.t_p 2 rfl (by kernel_rfl) (fun K hK => ?_); go_simp; refine hK _ ?_; clear hK K
      refine NB.t_rw 1 3 rfl rfl (by kernel_rfl) (by kernel_rfl) (by kernel_rfl) rfl rfl _ (NB.run_op_load rfl rfl Try.underlying48 rfl d1 (Below.refl _ w1)) ?_ (fun Q' hK => ?_)
      · refine NB.t_w 3 rfl (by kernel_rfl) (by kernel_rfl) rfl (fun Q' hK => ?_)
        go_wp2_with (go_at_call 23; refine (HU.out _ _ J1.rd).mono ?_; rintro e w2 ⟨rfl, F2, hC2, hS2⟩)
        have J2 := J1.num hC2 hS2
        have hSS := hS1.trans hS2
        clear J1 hC2 hS2 hS1 d0 d1 f0 f1 HU
        have hyy : (y : Int) = (y : Int) := rfl
        refine NB.t_e 4 rfl (by kernel_rfl) (by kernel_rfl) (fun K hK => ?_); unfold NB.tmoves; go_simp; refine ⟨oneB _ _, hK _ _ ?_⟩; clear hK K
        have own2 := NB.own_keep J2.ownL (oneB w2 (.cells #[.int .u64 (y : Int)] 24))
        have hsz2 : w.heap.size ≤ (w2.alloc (.cells #[.int .u64 (y : Int)] 24)).heap.size := Nat.le_trans hSS.size (oneB _ _).size
        refine NB.t_w 5 rfl (by kernel_rfl) (by kernel_rfl) rfl (fun Q' hK => ?_)
        refine NB.wpList_append_at rfl (.tmp 17) (.tmp 20) 48 rfl w.heap.size slTU _ xs.length (xs.map u64v) rfl own2 _ 1 1 ([y].map u64v) rfl (u64_rd w2 y _ rfl) (u64_one _) (by omega) (by unfold maxLen; omega) hsz2 ?_
        intro v6 w6 ho6 hg6 hv6
        refine hK _ _ ?_
        clear hK Q'
        have J3 := J2.below (oneB w2 (.cells #[.int .u64 (y : Int)] 24))
        have J6 := J3.app hul hg6 ho6 hv6
        have hS6 := stp_set (stp_grown (hSS.below (oneB w2 (.cells #[.int .u64 (y : Int)] 24)) hSS.size) hg6 (fun k e => (J2.ownL.lt k e).1)) (x := ⟨g4, 1, none⟩) J2.b4 v6
        have row6 := J3.row.keep ((Kp.refl (fun k => (Value.slice aL xs.length cL).ownBlock = some k) _).grown hg6 (fun k e => .inl e)) (fun e => (J3.d3 _ e).2 rfl)
        obtain ⟨e0, e1, f0, f1⟩ := NB.rw2 row6
        obtain ⟨a6, c6, rfl, _⟩ := NB.rd_of_own ho6
        have HJ := Go.Lib.hid J6; have HSS := Go.Lib.hid hS6
        clear J2 J3 J6 hS6 own2 ho6 hg6 hv6 row6 hSS hsz2 hyy
        refine NB.t_p 6 rfl (by kernel_rfl) (fun K hK => ?_); go_simp; refine hK _ ?_; clear hK K
        refine NB.t_w 7 rfl (by kernel_rfl) (by kernel_rfl) rfl (fun Q' hK => ?_)
        go_wp2_with fail
        refine NB.t_end (by kernel_rfl) ?_
        go_wp2_with fail
        go_roundw
        case rel => exact ⟨i + 1, F2, mu, xs ++ [y], a6, c6, by omega, by go_num, by rw [List.length_append]; exact HJ.out, HSS.out, HSN.out.symm, by rw [List.length_append, HXI.out]; rfl⟩
        case measure => simp [intOf]; omega
      · go_wp2_with (go_at_call 23; refine (HU.out _ _ J1.rd).mono ?_; rintro e w2 ⟨rfl, F2, hC2, hS2⟩)
        have J2 := J1.num hC2 hS2
        have hSS := hS1.trans hS2
        clear J1 hC2 hS2 hS1 d0 d1 f0 f1 HU
        obtain ⟨d0, d1, _⟩ := NB.rw2 J2.row
        refine NB.t_r 1 [5, 6, 7] rfl (by kernel_rfl) (by kernel_rfl) (by go_simp) _ (fun w' hw' => NB.run_op_load rfl rfl Try.underlying48 rfl d1 hw') (fun K hK => ?_); go_simp; refine hK _ ?_; clear hK K
        clear d0 d1
        have hyy : (y : Int) = (y : Int) := rfl
        refine NB.t_e 4 rfl (by kernel_rfl) (by kernel_rfl) (fun K hK => ?_); unfold NB.tmoves; go_simp; refine ⟨oneB _ _, hK _ _ ?_⟩; clear hK K
        have own2 := NB.own_keep J2.ownL (oneB w2 (.cells #[.int .u64 (y : Int)] 24))
        have hsz2 : w.heap.size ≤ (w2.alloc (.cells #[.int .u64 (y : Int)] 24)).heap.size := Nat.le_trans hSS.size (oneB _ _).size
        refine NB.t_w 5 rfl (by kernel_rfl) (by kernel_rfl) rfl (fun Q' hK => ?_)
        refine NB.wpList_append_at rfl (.tmp 17) (.tmp 20) 48 rfl w.heap.size slTU _ xs.length (xs.map u64v) rfl own2 _ 1 1 ([y].map u64v) rfl (u64_rd w2 y _ rfl) (u64_one _) (by omega) (by unfold maxLen; omega) hsz2 ?_
        intro v6 w6 ho6 hg6 hv6
        refine hK _ _ ?_
        clear hK Q'
        have J3 := J2.below (oneB w2 (.cells #[.int .u64 (y : Int)] 24))
        have J6 := J3.app hul hg6 ho6 hv6
        have hS6 := stp_set (stp_grown (hSS.below (oneB w2 (.cells #[.int .u64 (y : Int)] 24)) hSS.size) hg6 (fun k e => (J2.ownL.lt k e).1)) (x := ⟨g4, 1, none⟩) J2.b4 v6
        have row6 := J3.row.keep ((Kp.refl (fun k => (Value.slice aL xs.length cL).ownBlock = some k) _).grown hg6 (fun k e => .inl e)) (fun e => (J3.d3 _ e).2 rfl)
        obtain ⟨e0, e1, f0, f1⟩ := NB.rw2 row6
        obtain ⟨a6, c6, rfl, _⟩ := NB.rd_of_own ho6
        have HJ := Go.Lib.hid J6; have HSS := Go.Lib.hid hS6
        clear J2 J3 J6 hS6 own2 ho6 hg6 hv6 row6 hSS hsz2 hyy
        refine NB.t_p 6 rfl (by kernel_rfl) (fun K hK => ?_); go_simp; refine hK _ ?_; clear hK K
        refine NB.t_w 7 rfl (by kernel_rfl) (by kernel_rfl) rfl (fun Q' hK => ?_)
        go_wp2_with fail
        refine NB.t_end (by kernel_rfl) ?_
        go_wp2_with fail
        go_roundw
        case rel => exact ⟨i + 1, F2, mu, xs ++ [y], a6, c6, by omega, by go_num, by rw [List.length_append]; exact HJ.out, HSS.out, HSN.out.symm, by rw [List.length_append, HXI.out]; rfl⟩
        case measure => simp [intOf]; omega
end Go.Proofs.Ytnkmlopgfgdajaa
