/- The walk for the statement DiskReads. -/
import Derived.Test.YtihcppclfclkhaaDle
namespace Go.Proofs.Ytihcppclfclkhaa
open Go.RowKit
open Go.NB (Rd Dk Kp footD Stp Off Dis)

/-- What each block reads as. -/
def ReInv (D : Dk) (f : Nat → List UInt8) : Prop := D.left = -1 ∧ D.down = false ∧ D.l.length = 4 ∧ ∀ j, j < 4 → Dk.see (D.l.getD j []) D.waits j = f j
theorem see_snoc (l : List UInt8) (ws : List (Nat × List UInt8)) (k : Nat) (b : List UInt8) (j : Nat) : Dk.see l (ws ++ [(k, b)]) j = if k = j then b else Dk.see l ws j := by
  simp [Dk.see, List.foldl_append]
theorem lay_see (ws : List (Nat × List UInt8)) : ∀ (l : List (List UInt8)) (j : Nat), j < l.length → (Dk.lay l ws).getD j [] = Dk.see (l.getD j []) ws j := by
  induction ws with
  | nil => intro l j _; rfl
  | cons x ws ih =>
    intro l j hj
    have := ih (l.set x.1 x.2) j (by simpa using hj)
    show (Dk.lay (l.set x.1 x.2) ws).getD j [] = Dk.see (if x.1 = j then x.2 else l.getD j []) ws j
    rw [this]
    congr 1
    simp only [List.getD, List.getElem?_set]
    by_cases h : x.1 = j
    · subst h; simp [hj]
    · simp [h]
/-- A block of noughts. -/
def z64 : List UInt8 := List.replicate 64 0
theorem z64_len : z64.length = 64 := by simp [z64]
theorem re_0 : ReInv (Dk.fresh 4) (fun _ => z64) := by
  refine ⟨rfl, rfl, by simp [Dk.fresh], fun j hj => ?_⟩
  have : (List.replicate 4 (List.replicate 64 (0 : UInt8))).getD j [] = z64 := by
    rw [List.getD, List.getElem?_replicate, if_pos hj]; rfl
  exact this
theorem re_w {D : Dk} {f : Nat → List UInt8} (h : ReInv D f) (k : Nat) (hk : k < 4) (b : List UInt8) (hb : b.length = 64) :
    ReInv (D.write k b).1 (fun j => if k = j then b else f j) ∧ (D.write k b).2 = 0 ∧ (D.write k b).1.waits.length = D.waits.length + 1 := by
  obtain ⟨h1, h2, h3, h4⟩ := h
  have hn : ¬ ((k : Int) < 0 ∨ (D.l.length : Int) ≤ (k : Int)) := by omega
  have ha : D.at_ k = 0 := by simp only [Dk.at_, h2, hn, if_false]; rfl
  have hl : D.left ≠ 0 := by omega
  have hw : D.write k b = ({ D with left := max (D.left - 1) (-1), waits := D.waits ++ [((k : Int).toNat, b)] }, 0) := by simp [Dk.write, ha, hb, hl]
  rw [hw]
  refine ⟨⟨by simp only; omega, h2, h3, fun j hj => ?_⟩, rfl, by simp⟩
  simp only [Int.toNat_natCast, see_snoc]
  rw [h4 j hj]
theorem re_s {D : Dk} {f : Nat → List UInt8} (h : ReInv D f) : ReInv D.sync.1 f ∧ D.sync.2 = 0 ∧ D.sync.1.waits = [] := by
  obtain ⟨h1, h2, h3, h4⟩ := h
  have hl : D.left ≠ 0 := by omega
  have hw : D.sync = ({ D with left := max (D.left - 1) (-1), l := Dk.lay D.l D.waits, waits := [] }, 0) := by simp [Dk.sync, h2, hl]
  rw [hw]
  refine ⟨⟨by simp only; omega, h2, by simp [lay_len, h3], fun j hj => ?_⟩, rfl, rfl⟩
  simp only
  rw [lay_see _ _ _ (by omega)]
  exact h4 j hj
theorem re_r {D : Dk} {f : Nat → List UInt8} (h : ReInv D f) (j : Nat) (hj : j < 4) : D.read j = (f j, 0) := by
  obtain ⟨h1, h2, h3, h4⟩ := h
  have hn : ¬ ((j : Int) < 0 ∨ (D.l.length : Int) ≤ (j : Int)) := by omega
  have ha : D.at_ j = 0 := by simp only [Dk.at_, h2, hn, if_false]; rfl
  simp only [Dk.read, ha, ne_eq, not_true_eq_false, if_false, Int.toNat_natCast, h4 j hj]

/-- A row of slices, of which the first 'm' read as these bytes. -/
structure Lst (w : World) (G : Nat) (F : Nat → Prop) (m : Nat) (vs : List Value) (f : Nat → List UInt8) : Prop where
  row : w.heap[G]? = some (.cells vs.toArray 22 (0, 0))
  len : vs.length = 4
  each : ∀ j, j < m → ∃ a c, vs[j]? = some (.slice a 64 c) ∧ Off (fun k => F k ∨ k = G) w a 64 c (f j) ∧ (f j).length = 64
theorem Lst.lt {w : World} {G m : Nat} {F : Nat → Prop} {vs : List Value} {f : Nat → List UInt8} (h : Lst w G F m vs f) : G < w.heap.size := (Array.getElem?_eq_some_iff.1 h.row).1
theorem Lst.step {w w' : World} {G m : Nat} {F F' : Nat → Prop} {vs : List Value} {f : Nat → List UInt8} (h : Lst w G F m vs f) (hs : Stp F F' w w') (hG : ¬ F G) : Lst w' G F' m vs f :=
  ⟨(hs.kp.block G h.lt hG).trans h.row, h.len, fun j hj => by
    obtain ⟨a, c, h1, h2, h3⟩ := h.each j hj
    exact ⟨a, c, h1, h2.step (hs.add _), h3⟩⟩
theorem Lst.below {w w' : World} {G m : Nat} {F : Nat → Prop} {vs : List Value} {f : Nat → List UInt8} (h : Lst w G F m vs f) (hb : Below w.heap.size w w') : Lst w' G F m vs f :=
  ⟨(hb.block G h.lt).trans h.row, h.len, fun j hj => by
    obtain ⟨a, c, h1, h2, h3⟩ := h.each j hj
    exact ⟨a, c, h1, h2.below hb, h3⟩⟩
/-- A slice is stored anew. -/
theorem Lst.set {w : World} {G m m' : Nat} {F : Nat → Prop} {vs : List Value} {f f' : Nat → List UInt8} (h : Lst w G F m vs f) (k : Nat) (hk : k < 4) (a : Option Addr) (c : Nat) (bs : List UInt8) (hb : Off (fun k => F k ∨ k = G) w a 64 c bs) (hl : bs.length = 64)
    (hm : ∀ j, j < m' → j = k ∨ j < m) (hf : ∀ j, f' j = if k = j then bs else f j) : Lst (w.setCell ⟨G, k, none⟩ (.slice a 64 c)) G F m' (vs.set k (.slice a 64 c)) f' := by
  have hk4 : k < vs.length := by rw [h.len]; exact hk
  have hK : Stp (fun k => F k ∨ k = G) (fun k => F k ∨ k = G) w (w.setCell ⟨G, k, none⟩ (.slice a 64 c)) := .of_kp ((Kp.refl _ _).setCell (.inl (.inr rfl)) _)
  refine ⟨?_, by simpa using h.len, fun j hj => ?_⟩
  · rw [heap_setCell_same _ _ _ _ _ _ h.row]
    simp
  · rw [hf j]
    by_cases e : k = j
    · subst e
      exact ⟨a, c, by simp [hk4], by simpa using hb.step hK, by simpa using hl⟩
    · obtain ⟨a1, c1, h1, h2, h3⟩ := h.each j ((hm j hj).resolve_left (fun h => e h.symm))
      refine ⟨a1, c1, by rw [List.getElem?_set_ne e]; exact h1, ?_, ?_⟩
      · rw [if_neg e]; exact h2.step hK
      · rw [if_neg e]; exact h3
theorem Lst.cell {w : World} {G m : Nat} {F : Nat → Prop} {vs : List Value} {f : Nat → List UInt8} (h : Lst w G F m vs f) (j : Nat) (v : Value) (hv : vs[j]? = some v) : w.cell? ⟨G, j, none⟩ = some v := by
  rw [cell_of_row _ _ _ _ _ _ h.row]
  simpa using hv
theorem Lst.free {w : World} {G m : Nat} {F : Nat → Prop} {vs : List Value} {f : Nat → List UInt8} (h : Lst w G F m vs f) (j : Nat) : w.frozen? ⟨G, j, none⟩ = false := frozen_of_row _ _ _ _ _ h.row

theorem slTS : NB.SlT Try.prog 28 22 (.slice none 0 0) 1 24 :=
  ⟨Try.underlying28, info_parts (by kernel_rfl), rfl, by omega⟩

theorem and3 (y : UInt8) : ∃ j : Nat, j < 4 ∧ bits .and .u8 (y.toNat : Int) 3 = (j : Int) := by
  have h : bits .and .u8 (y.toNat : Int) 3 = (y.toNat : Int) % 4 := bits_mask .u8 8 (by decide) wraps_u8 2 (by decide) _ (by omega) (by have := y.toNat_lt; omega)
  exact ⟨y.toNat % 4, by omega, by rw [h]; omega⟩

set_option maxRecDepth 100000 in
set_option maxHeartbeats 4000000 in
theorem law_dreads (w : World) (a : Option Addr) (n c : Nat) (t : List UInt8) (a' : Option Addr) (n' c' : Nat) (t' : List UInt8) (h : NB.RdB w a n c t) (h' : NB.RdB w a' n' c' t') :
    Calls Try.prog 3 #[.slice a n c, .slice a' n' c'] w fun e w' => e = .returned (.bool true) ∧ Below w.heap.size w w' := by
  obtain ⟨i, hi, hz, hsz, hby⟩ := slTB.hi
  obtain ⟨iS, hiS, hzS, hszS, hbyS⟩ := slTS.hi
  have hbd := Rd.bound h
  have hbd' := Rd.bound h'
  by_cases hn : n ≤ 40
  · have hnz : (n : Int) ≤ 40 := by omega
    by_cases hn' : n ≤ n'
    · have hnz' : (n : Int) ≤ (n' : Int) := by omega
      go_enter Try.func3, Try.ntmps3
      go_wp2_with (first
        | (go_at_call 9; refine (awake_any _).mono ?_; rintro e w1 ⟨rfl, hb1⟩)
        | (go_at_call 10; refine (dnew_any _ 4 (by omega) (by omega)).mono ?_; rintro e w2 ⟨p, F2, rfl, hD2, hb2⟩; have B2 := bel hb1 hb2 hb1.size)
        | (at_make; refine wpList_make_full w2 rfl (.const (.int .i64 4)) (.const (.int .i64 4)) 28 rfl w2.heap.size 22 iS (.slice none 0 0) 1 slTS.ht hiS hzS hszS .i64 .i64 4 4 4 rfl rfl rfl rfl (by rw [hbyS]; omega) (by unfold maxLen; omega) (Nat.le_refl _) ?_; intro w3 ho3 hg3))
      have hb3 : Below w2.heap.size w2 w3 := (Below.refl _ w2).grown hg3 (Nat.le_refl _) (by rintro k hk; cases hk)
      have hL3 : Lst w3 w2.heap.size F2 0 (madeCells #[.slice none 0 0] 4).toList (fun _ => z64) := by
        refine ⟨?_, by kernel_rfl, fun j hj => absurd hj (by omega)⟩
        have := row_full ho3
        exact this
      have B3 := bel B2 hb3 B2.size
      have hD3 := hD2.below hb3
      have hFG : ¬ F2 w2.heap.size := fun hf => by have := (hD2.foot _ hf).2; omega
      have hbase := hb1.size
      have hGw : w.heap.size ≤ w2.heap.size := B2.size
      have hr0 := re_0
      have hws : (Dk.fresh 4).waits.length = 0 := rfl
      generalize (madeCells #[.slice none 0 0] 4).toList = vs0 at hL3
      generalize Dk.fresh 4 = D0 at *
      clear ho3 hg3 hb3 hD2 hb2 hb1 B2
      generalize w2.heap.size = G at *
      go_loopw [9] (fun i wr => ∃ (k : Nat) (vs : List Value), k ≤ 4 ∧ i = .int .i64 k ∧ Lst wr G F2 k vs (fun _ => z64) ∧ HasD wr w1.heap.size p F2 D0 ∧ Below w.heap.size w wr) (fun i _ => 4 - (intOf i).toNat)
      case atStart => exact ⟨0, vs0, by omega, rfl, hL3, hD3, B3⟩
      case round =>
        clear B3 hD3 hL3
        obtain ⟨k, vs, hk, rfl, hL, hD, hB⟩ := hrel
        by_cases hlt : k < 4
        · have hki : (k : Int) < 4 := by omega
          have hkv : vs[k]? = some (vs[k]'(by rw [hL.len]; exact hlt)) := List.getElem?_eq_getElem _
          generalize (vs[k]'(by rw [hL.len]; exact hlt)) = old at hkv
          go_wp2_with (first
            | (at_make; refine wpList_make_full wr rfl (.const (.int .i64 64)) (.const (.int .i64 64)) 22 rfl wr.heap.size 5 i (.int .u8 0) 1 slTB.ht hi hz hsz .i64 .i64 64 64 64 rfl rfl rfl rfl (by rw [hby]; omega) (by unfold maxLen; omega) (Nat.le_refl _) ?_; intro w4 ho4 hg4; have hb4 : Below wr.heap.size wr w4 := (Below.refl _ wr).grown hg4 (Nat.le_refl _) (by rintro k hk; cases hk); have hL4 := hL.below hb4; have q4 := hL4.cell k old hkv; have f4 := hL4.free k))
          have hr4 : RowB w4 wr.heap.size z64 := by
            have := row_full ho4
            rw [show (Value.int IntKind.u8 0).cells = #[.int .u8 0] from rfl, Nat.mul_one, made_bytes] at this
            exact this
          have ho : Off (fun k => F2 k ∨ k = G) w4 (some ⟨wr.heap.size, 0, none⟩) 64 64 z64 :=
            ⟨hr4.rd (by rw [z64_len]; unfold maxLen; omega), fun k o e _ hf => by
              cases e
              rcases hf with hf | hf
              · have := (hD.foot _ hf).2; omega
              · have := hL.lt; omega⟩
          have hL5 := hL4.set (m' := k + 1) (f' := fun _ => z64) k hlt _ _ _ ho z64_len (fun j hj => by omega) (fun j => by split <;> rfl)
          have K5 : Kp (fun k => k = G) w4 (w4.setCell ⟨G, k, none⟩ (.slice (some ⟨wr.heap.size, 0, none⟩) 64 64)) := (Kp.refl (fun k => k = G) w4).setCell (x := ⟨G, k, none⟩) (.inl rfl) _
          have hD5 := (hD.below hb4).keep K5 (fun k hk e => hFG (e ▸ hk))
          have B5 := (bel hB hb4 hB.size).setCell (p := ⟨G, k, none⟩) hGw (.slice (some ⟨wr.heap.size, 0, none⟩) 64 64)
          go_roundw
          case rel => exact ⟨k + 1, _, by omega, by go_num, hL5, hD5, B5⟩
          case measure => simp [intOf]; omega
        · obtain rfl : k = 4 := by omega
          have hL0 := hL
          go_wp2_with fail
          rw [show ((4 : Nat) : Int) = (4 : Int) from rfl]
          go_loopw [10] (fun i wr => ∃ (m : Nat) (vs : List Value) (f : Nat → List UInt8) (D : Dk) (F : Nat → Prop), m ≤ n ∧ i = .int .i64 m ∧ Lst wr G F 4 vs f ∧ HasD wr w1.heap.size p F D ∧ ReInv D f ∧ D.waits.length ≤ m ∧ ¬ F G ∧ Below w.heap.size w wr) (fun i _ => n - (intOf i).toNat)
          case atStart => exact ⟨0, vs, _, D0, F2, by omega, rfl, hL0, hD, hr0, by omega, hFG, hB⟩
          case round =>
            clear hL0 hL hD hB hr0 hFG hws
            obtain ⟨m, vs, f, D, F, hm, rfl, hL, hD, hI, hw, hFG, hB⟩ := hrel
            by_cases hlt : m < n
            · have hmi : (m : Int) < (n : Int) := by omega
              obtain ⟨b3, o3, qw, ha⟩ := byte_at h m hlt
              obtain ⟨b4, o4, qw', ha'⟩ := byte_at h' m (by omega)
              subst ha ha'
              have hmn' : (m : Int) < (n' : Int) := by omega
              have lw := World.block_lt_of_cell? w _ qw
              have lw' := World.block_lt_of_cell? w _ qw'
              generalize t.getD m 0 = y at *
              generalize t'.getD m 0 = y' at *
              have hcw : ∀ W, Below w.heap.size w W → W.cell? ⟨b3, o3 + m, none⟩ = some (.int .u8 (y.toNat : Int)) := fun W hW => (hW.cell (p := ⟨b3, o3 + m, none⟩) lw).trans qw
              have hcw' : ∀ W, Below w.heap.size w W → W.cell? ⟨b4, o4 + m, none⟩ = some (.int .u8 (y'.toNat : Int)) := fun W hW => (hW.cell (p := ⟨b4, o4 + m, none⟩) lw').trans qw'
              have q3 := hcw wr hB
              have HC' := Go.Lib.hid hcw'; clear hcw hcw' qw qw'
              obtain ⟨j, hj4, hj⟩ := and3 y
              have hj4i : (j : Int) < 4 := by omega
              have hfl := filled_len [y, UInt8.ofNat m]
              obtain ⟨hI2, hE2, hw2⟩ := re_w hI j hj4 _ hfl
              have hby2 : IntKind.u8.wrap (m : Int) = ((UInt8.ofNat m).toNat : Int) := by rw [IntKind.wrap_u8, UInt8.toNat_ofNat']; omega
              have hw1 : D.waits.length ≤ 1000000 := by omega
              have k2 : (2 : Nat) ≤ maxLen := by unfold maxLen; omega
              generalize UInt8.ofNat m = z at *
              have HI := Go.Lib.hid hI; have HI2 := Go.Lib.hid hI2; have HE := Go.Lib.hid hE2; clear hI hI2 hE2
              go_wp2_with (first
                | (go_at_call 11; refine (filled_any _ (some ⟨wr.heap.size, 0, none⟩) 2 2 [y, z] false (NB.rdB_lit (n := 2) [y, z] rfl rfl k2 rfl)).mono ?_; rintro e w4 ⟨a4, c4, rfl, ho4, hb4⟩))
              have Ba := hB.alloc hB.size (.cells #[.int .u8 (y.toNat : Int), .int .u8 (z.toNat : Int)] 5)
              have hDa := hD.alloc (.cells #[.int .u8 (y.toNat : Int), .int .u8 (z.toNat : Int)] 5)
              have hLa := hL.below ((Below.refl _ wr).alloc (Nat.le_refl _) (.cells #[.int .u8 (y.toNat : Int), .int .u8 (z.toNat : Int)] 5))
              have B4 := bel Ba hb4 Ba.size
              have of4 := Off.fresh (F := fun k => F k ∨ k = G) ho4 (fun k hk => by
                rcases hk with hk | rfl
                · exact (hDa.foot k hk).2
                · exact hLa.lt)
              rw [hfl] at of4
              have hD4 := hDa.below hb4
              have hL4 := hLa.below hb4
              generalize filledL [y, z] false = b at *
              clear ho4 hb4 hLa hDa Ba hL hD hB
              refine (dwrite_any _ _ _ _ _ (j : Int) _ _ _ _ hD4 ⟨of4.rd, fun k o e hn hf => of4.nf k o e hn (.inl hf)⟩ hw1).mono ?_
              rintro e w5 ⟨rfl, F5, hD5, hS5⟩
              rw [HE.out]
              have of5 := of4.step (hS5.add _)
              have hL5 := hL4.step hS5 hFG
              have hF5 : ¬ F5 G := fun hf => by
                rcases hS5.sub G hf with h1 | h1
                · exact hFG h1
                · have := hL4.lt; omega
              have B5 := bel B4 (hD4.low hS5) hbase
              have hj5 : j < vs.length := by rw [hL5.len]; exact hj4
              have q5 := hL5.cell j _ (List.getElem?_eq_getElem hj5)
              have f5 := hL5.free j
              generalize vs[j] = old at q5
              have hL6 := hL5.set (m' := 4) (f' := fun i => if j = i then b else f i) j hj4 a4 c4 b of5 hfl (fun i hi => .inr hi) (fun i => rfl)
              have hD6 := hD5.keep ((Kp.refl (fun k => k = G) w5).setCell (x := ⟨G, j, none⟩) (.inl rfl) (.slice a4 64 c4)) (fun k hk e => hF5 (e ▸ hk))
              have B6 := B5.setCell (p := ⟨G, j, none⟩) hGw (.slice a4 64 c4)
              have q6 := HC'.out _ B6
              have hw6 : (D.write (j : Int) b).1.waits.length ≤ m + 1 := by omega
              have HL6 := Go.Lib.hid hL6
              generalize (D.write (j : Int) b).1 = D6 at *
              have HI2' := HI2.out
              generalize (fun i => if j = i then b else f i) = f6 at *
              generalize vs.set j (.slice a4 64 c4) = vs6 at *
              clear hL6 hL5 hL4 of4 of5 hS5 hD4 hD5 B4 B5 HI HI2 HE hw2 hw hw1 hj5
              obtain ⟨hI7, hE7, hw7⟩ := re_s HI2'
              have HE7 := Go.Lib.hid hE7; clear hE7
              cases hp : (bits .and .u8 (y'.toNat : Int) 1 == 1) with
              | true =>
                go_wp2_with (first
                  | (go_at_call 13; refine (dsync_any _ _ _ _ _ hD6 (by omega)).mono ?_; rintro e w7 ⟨rfl, F7, hD7, hS7⟩; rw [HE7.out]))
                have hL7 := HL6.out.step hS7 hF5
                have hF7 : ¬ F7 G := fun hf => by
                  rcases hS7.sub G hf with h1 | h1
                  · exact hF5 h1
                  · have := HL6.out.lt; omega
                have B7 := bel B6 (hD6.low hS7) hbase
                have hw8 : D6.sync.1.waits.length ≤ m + 1 := by rw [hw7]; simp
                clear HL6 hD6 hS7 hF5 B6 q6 f5 q5 hw7 hw6 hI7 HC'
                obtain ⟨hI7, _, _⟩ := re_s HI2'
                generalize D6.sync.1 = D7 at *
                generalize hx6 : f6 = f7 at *
                clear hx6
                have HI7 := Go.Lib.hid hI7; clear hI7 HI2'
                go_loopw [13] (fun i wr => ∃ (q : Nat), q ≤ 4 ∧ i = .int .i64 q ∧ Lst wr G F7 4 vs6 f7 ∧ HasD wr w1.heap.size p F7 D7 ∧ Below w.heap.size w wr) (fun i _ => 4 - (intOf i).toNat)
                case atStart => exact ⟨0, by omega, rfl, hL7, hD7, B7⟩
                case round =>
                  clear hL7 hD7 B7
                  obtain ⟨q, hq, rfl, hL, hD, hB⟩ := hrel
                  by_cases hq4 : q < 4
                  · have hqi : (q : Int) < 4 := by omega
                    obtain ⟨a8, c8, hv8, hf8, hl8⟩ := hL.each q hq4
                    have hrd := re_r HI7.out q hq4
                    generalize f7 q = g at *
                    go_wp2_with (first
                      | (go_at_call 14; refine (dread_any _ _ _ _ _ (q : Int) hD (by omega)).mono ?_; rw [hrd]; rintro e w9 ⟨a9, c9, rfl, ho9, hb9⟩; rw [show (g, (0 : Int)).1.length = 64 from hl8]))
                    have r9 := (Off.fresh (F := fun _ => False) ho9 (fun _ h => h.elim)).rd
                    rw [hl8] at r9
                    have hL9 := hL.below hb9
                    have hD9 := hD.below hb9
                    have B9 := bel hB hb9 hB.size
                    have rd := Go.Lib.hid (Rd.below r9 (Below.refl _ w9).drew)
                    have rf := Go.Lib.hid (Rd.below (hf8.below hb9).rd (Below.refl _ w9).drew)
                    have qv := (hL9.below (Below.refl _ w9).drew).cell q _ hv8
                    have HL := Go.Lib.hid (hL9.below (Below.refl _ w9).drew)
                    have HD := Go.Lib.hid (hD9.below (Below.refl _ w9).drew)
                    have HB := Go.Lib.hid B9.drew
                    clear r9 hL9 hD9 B9 hb9 ho9 hf8 hL hD hB hrd
                    have hqn : q < 4 := hq4
                    refine NB.wp_region_m (by kernel_rfl) ?_
                    generalize w9.drew = v at *
                    refine NB.any_p 0 rfl (by kernel_rfl) (fun K hK => ?_); go_simp; refine hK _ ?_; clear hK K
                    refine NB.any_p 1 rfl (by kernel_rfl) (fun K hK => ?_); go_simp; refine hK _ ?_; clear hK K
                    refine NB.any_p 2 rfl (by kernel_rfl) (fun K hK => ?_); go_simp; refine hK _ ?_; clear hK K
                    refine NB.any_p 3 rfl (by kernel_rfl) (fun K hK => ?_); go_simp; refine hK _ ?_; clear hK K
                    refine NB.any_r 4 rfl (by kernel_rfl) rfl _ (fun w' hw' => NB.run_op_conv_str Try.underlying22 Try.underlying5 Try.underlying9 rfl rfl (Rd.below (rd.out) hw')) (fun K hK => ?_); go_simp; refine hK _ ?_; clear hK K
                    refine NB.any_p 5 rfl (by kernel_rfl) (fun K hK => ?_); go_simp; refine hK _ ?_; clear hK K
                    refine NB.any_p 6 rfl (by kernel_rfl) (fun K hK => ?_); go_simp; refine hK _ ?_; clear hK K
                    refine NB.any_p 7 rfl (by kernel_rfl) (fun K hK => ?_); go_simp; refine hK _ ?_; clear hK K
                    refine NB.any_r 8 rfl (by kernel_rfl) rfl _ (fun w' hw' => NB.run_op_load rfl rfl Try.underlying22 rfl qv hw') (fun K hK => ?_); go_simp; refine hK _ ?_; clear hK K
                    refine NB.any_r 9 rfl (by kernel_rfl) rfl _ (fun w' hw' => NB.run_op_conv_str Try.underlying22 Try.underlying5 Try.underlying9 rfl rfl (Rd.below (rf.out) hw')) (fun K hK => ?_); go_simp; refine hK _ ?_; clear hK K
                    refine NB.any_p 10 rfl (by kernel_rfl) (fun K hK => ?_); go_simp; refine hK _ ?_; clear hK K
                    refine NB.any_p 11 rfl (by kernel_rfl) (fun K hK => ?_); go_simp; refine hK _ ?_; clear hK K
                    refine NB.any_end (by kernel_rfl) ?_
                    go_wp2_with fail
                    go_roundw
                    case rel => exact ⟨q + 1, by omega, by go_num, HL.out, HD.out, HB.out⟩
                    case measure => simp [intOf]; omega
                  · obtain rfl : q = 4 := by omega
                    go_wp2_with fail
                    go_roundw
                    case rel => exact ⟨m + 1, vs6, f7, D7, F7, by omega, by go_num, hL, hD, HI7.out, hw8, hF7, hB⟩
                    case measure => simp [intOf]; omega
              | false =>
                go_wp2_with fail
                have hL7 := HL6.out
                have hF7 := hF5
                have B7 := B6
                have hw8 := hw6
                have hD7 := hD6
                have hI7' := HI2'
                clear HL6 hF5 B6 q6 f5 q5 hw7 hw6 hI7 HC' hD6
                have hI7 := hI7'
                clear hI7'
                generalize (w5.setCell ⟨G, j, none⟩ (.slice a4 64 c4)) = w7 at *
                generalize hx6 : f6 = f7 at *
                clear hx6
                have HI7 := Go.Lib.hid hI7; clear hI7 HI2'
                go_loopw [13] (fun i wr => ∃ (q : Nat), q ≤ 4 ∧ i = .int .i64 q ∧ Lst wr G F5 4 vs6 f7 ∧ HasD wr w1.heap.size p F5 D6 ∧ Below w.heap.size w wr) (fun i _ => 4 - (intOf i).toNat)
                case atStart => exact ⟨0, by omega, rfl, hL7, hD7, B7⟩
                case round =>
                  clear hL7 hD7 B7
                  obtain ⟨q, hq, rfl, hL, hD, hB⟩ := hrel
                  by_cases hq4 : q < 4
                  · have hqi : (q : Int) < 4 := by omega
                    obtain ⟨a8, c8, hv8, hf8, hl8⟩ := hL.each q hq4
                    have hrd := re_r HI7.out q hq4
                    generalize f7 q = g at *
                    go_wp2_with (first
                      | (go_at_call 14; refine (dread_any _ _ _ _ _ (q : Int) hD (by omega)).mono ?_; rw [hrd]; rintro e w9 ⟨a9, c9, rfl, ho9, hb9⟩; rw [show (g, (0 : Int)).1.length = 64 from hl8]))
                    have r9 := (Off.fresh (F := fun _ => False) ho9 (fun _ h => h.elim)).rd
                    rw [hl8] at r9
                    have hL9 := hL.below hb9
                    have hD9 := hD.below hb9
                    have B9 := bel hB hb9 hB.size
                    have rd := Go.Lib.hid (Rd.below r9 (Below.refl _ w9).drew)
                    have rf := Go.Lib.hid (Rd.below (hf8.below hb9).rd (Below.refl _ w9).drew)
                    have qv := (hL9.below (Below.refl _ w9).drew).cell q _ hv8
                    have HL := Go.Lib.hid (hL9.below (Below.refl _ w9).drew)
                    have HD := Go.Lib.hid (hD9.below (Below.refl _ w9).drew)
                    have HB := Go.Lib.hid B9.drew
                    clear r9 hL9 hD9 B9 hb9 ho9 hf8 hL hD hB hrd
                    have hqn : q < 4 := hq4
                    refine NB.wp_region_m (by kernel_rfl) ?_
                    generalize w9.drew = v at *
                    refine NB.any_p 0 rfl (by kernel_rfl) (fun K hK => ?_); go_simp; refine hK _ ?_; clear hK K
                    refine NB.any_p 1 rfl (by kernel_rfl) (fun K hK => ?_); go_simp; refine hK _ ?_; clear hK K
                    refine NB.any_p 2 rfl (by kernel_rfl) (fun K hK => ?_); go_simp; refine hK _ ?_; clear hK K
                    refine NB.any_p 3 rfl (by kernel_rfl) (fun K hK => ?_); go_simp; refine hK _ ?_; clear hK K
                    refine NB.any_r 4 rfl (by kernel_rfl) rfl _ (fun w' hw' => NB.run_op_conv_str Try.underlying22 Try.underlying5 Try.underlying9 rfl rfl (Rd.below (rd.out) hw')) (fun K hK => ?_); go_simp; refine hK _ ?_; clear hK K
                    refine NB.any_p 5 rfl (by kernel_rfl) (fun K hK => ?_); go_simp; refine hK _ ?_; clear hK K
                    refine NB.any_p 6 rfl (by kernel_rfl) (fun K hK => ?_); go_simp; refine hK _ ?_; clear hK K
                    refine NB.any_p 7 rfl (by kernel_rfl) (fun K hK => ?_); go_simp; refine hK _ ?_; clear hK K
                    refine NB.any_r 8 rfl (by kernel_rfl) rfl _ (fun w' hw' => NB.run_op_load rfl rfl Try.underlying22 rfl qv hw') (fun K hK => ?_); go_simp; refine hK _ ?_; clear hK K
                    refine NB.any_r 9 rfl (by kernel_rfl) rfl _ (fun w' hw' => NB.run_op_conv_str Try.underlying22 Try.underlying5 Try.underlying9 rfl rfl (Rd.below (rf.out) hw')) (fun K hK => ?_); go_simp; refine hK _ ?_; clear hK K
                    refine NB.any_p 10 rfl (by kernel_rfl) (fun K hK => ?_); go_simp; refine hK _ ?_; clear hK K
                    refine NB.any_p 11 rfl (by kernel_rfl) (fun K hK => ?_); go_simp; refine hK _ ?_; clear hK K
                    refine NB.any_end (by kernel_rfl) ?_
                    go_wp2_with fail
                    go_roundw
                    case rel => exact ⟨q + 1, by omega, by go_num, HL.out, HD.out, HB.out⟩
                    case measure => simp [intOf]; omega
                  · obtain rfl : q = 4 := by omega
                    go_wp2_with fail
                    go_roundw
                    case rel => exact ⟨m + 1, vs6, f7, D6, F5, by omega, by go_num, hL, hD, HI7.out, hw8, hF7, hB⟩
                    case measure => simp [intOf]; omega
            · obtain rfl : m = n := by omega
              go_wp2_with fail
              go_ret
              exact ⟨rfl, hB⟩
    · have hnz' : ¬ (n : Int) ≤ (n' : Int) := by omega
      go_enter Try.func3, Try.ntmps3
      go_wp2_with (first
          | (go_at_call 9; refine (awake_any _).mono ?_; rintro e w1 ⟨rfl, hb1⟩))
      go_ret
      exact ⟨rfl, hb1⟩
  · have hnz : ¬ (n : Int) ≤ 40 := by omega
    go_enter Try.func3, Try.ntmps3
    go_wp2_with (first
        | (go_at_call 9; refine (awake_any _).mono ?_; rintro e w1 ⟨rfl, hb1⟩))
    go_ret
    exact ⟨rfl, hb1⟩
end Go.Proofs.Ytihcppclfclkhaa
