/- The walk for the statement DiskSure. -/
import Derived.Test.YtihcppclfclkhaaDlf
namespace Go.Proofs.Ytihcppclfclkhaa
open Go.RowKit
open Go.NB (Rd Dk Kp footD Stp Off Dis)

/-- What each of 'n' blocks reads as. -/
def SuInv (n : Nat) (D : Dk) (f : Nat → List UInt8) : Prop := D.left = -1 ∧ D.down = false ∧ D.l.length = n ∧ ∀ j, j < n → Dk.see (D.l.getD j []) D.waits j = f j
theorem su_0 (n : Nat) : SuInv n (Dk.fresh n) (fun _ => z64) := by
  refine ⟨rfl, rfl, by simp [Dk.fresh], fun j hj => ?_⟩
  have : (List.replicate n (List.replicate 64 (0 : UInt8))).getD j [] = z64 := by
    rw [List.getD, List.getElem?_replicate, if_pos hj]; rfl
  exact this
theorem su_w' {n : Nat} {D : Dk} (h1 : D.left = -1) (h2 : D.down = false) (h3 : D.l.length = n) (k : Nat) (hk : k < n) (b : List UInt8) (hb : b.length = 64) :
    D.write k b = ({ D with waits := D.waits ++ [(k, b)] }, 0) := by
  have hn : ¬ ((k : Int) < 0 ∨ (D.l.length : Int) ≤ (k : Int)) := by omega
  have ha : D.at_ k = 0 := by simp only [Dk.at_, h2, hn, if_false]; rfl
  have hl : D.left ≠ 0 := by omega
  simp only [Dk.write, ha, hb, hl, ne_eq, not_true_eq_false, if_false, Int.toNat_natCast, h1]
  rfl
theorem su_w {n : Nat} {D : Dk} {f : Nat → List UInt8} (h : SuInv n D f) (k : Nat) (hk : k < n) (b : List UInt8) (hb : b.length = 64) :
    SuInv n (D.write k b).1 (fun j => if k = j then b else f j) ∧ (D.write k b).2 = 0 ∧ (D.write k b).1.waits.length = D.waits.length + 1 := by
  obtain ⟨h1, h2, h3, h4⟩ := h
  rw [su_w' h1 h2 h3 k hk b hb]
  refine ⟨⟨h1, h2, h3, fun j hj => ?_⟩, rfl, by simp⟩
  simp only [see_snoc]
  rw [h4 j hj]
/-- What is sure, and to which blocks writes wait. -/
def SrInv (n : Nat) (D : Dk) (f : Nat → List UInt8) (wr : Nat → Bool) : Prop := D.left = -1 ∧ D.down = false ∧ D.l.length = n ∧ (∀ j, j < n → D.l.getD j [] = f j) ∧ ∀ j, j < n → wr j = false → ∀ x ∈ D.waits, x.1 ≠ j
theorem su_s {n : Nat} {D : Dk} {f : Nat → List UInt8} (h : SuInv n D f) : SrInv n D.sync.1 f (fun _ => false) ∧ D.sync.2 = 0 ∧ D.sync.1.waits = [] := by
  obtain ⟨h1, h2, h3, h4⟩ := h
  have hl : D.left ≠ 0 := by omega
  have hw : D.sync = ({ D with left := max (D.left - 1) (-1), l := Dk.lay D.l D.waits, waits := [] }, 0) := by simp [Dk.sync, h2, hl]
  rw [hw]
  refine ⟨⟨by simp only; omega, h2, by simp [lay_len, h3], fun j hj => ?_, fun j _ _ x hx => nomatch hx⟩, rfl, rfl⟩
  simp only
  rw [lay_see _ _ _ (by omega)]
  exact h4 j hj
theorem sr_w {n : Nat} {D : Dk} {f : Nat → List UInt8} {wr : Nat → Bool} (h : SrInv n D f wr) (k : Nat) (hk : k < n) (b : List UInt8) (hb : b.length = 64) :
    SrInv n (D.write k b).1 f (fun j => if k = j then true else wr j) ∧ (D.write k b).2 = 0 ∧ (D.write k b).1.waits.length = D.waits.length + 1 := by
  obtain ⟨h1, h2, h3, h4, h5⟩ := h
  rw [su_w' h1 h2 h3 k hk b hb]
  refine ⟨⟨h1, h2, h3, h4, fun j hj hw x hx => ?_⟩, rfl, by simp⟩
  simp only at hx
  by_cases e : k = j
  · simp [e] at hw
  · replace hw : wr j = false := by simpa [e] using hw
    rcases List.mem_append.1 hx with hx | hx
    · exact h5 j hj hw x hx
    · obtain rfl : x = (k, b) := by simpa using hx
      exact e
theorem tears_keep (j : Nat) : ∀ (ws : List (Nat × List UInt8)) (l : List (List UInt8)) (pick : List UInt8), (∀ x ∈ ws, x.1 ≠ j) → (Dk.tears l ws pick).getD j [] = l.getD j [] := by
  intro ws
  induction ws with
  | nil => intro l pick _; rfl
  | cons x ws ih =>
    intro l pick hx
    cases pick with
    | nil => rfl
    | cons c pick =>
      show (Dk.tears (Dk.tear l x (c.toNat % 65)) ws pick).getD j [] = _
      rw [ih _ _ (fun y hy => hx y (List.mem_cons_of_mem _ hy))]
      have := hx x List.mem_cons_self
      simp only [Dk.tear, List.getD, List.getElem?_set_ne this]
/-- Behind a crash. -/
theorem sr_c {n : Nat} {D : Dk} {f : Nat → List UInt8} {wr : Nat → Bool} (h : SrInv n D f wr) (pick : List UInt8) :
    (D.crash pick).waits = [] ∧ (D.crash pick).down = false ∧ ∀ j, j < n → ((D.crash pick).read j).2 = 0 ∧ (wr j = false → ((D.crash pick).read j).1 = f j) ∧ (pick = [] → ((D.crash pick).read j).1 = f j) := by
  obtain ⟨h1, h2, h3, h4, h5⟩ := h
  refine ⟨rfl, rfl, fun j hj => ?_⟩
  have hlen : (D.crash pick).l.length = n := by simp [Dk.crash, NB.tears_len, h3]
  have hn : ¬ ((j : Int) < 0 ∨ ((D.crash pick).l.length : Int) ≤ (j : Int)) := by omega
  have ha : (D.crash pick).at_ j = 0 := by simp only [Dk.at_, hn, if_false]; rfl
  have hr : (D.crash pick).read j = ((Dk.tears D.l D.waits pick).getD j [], 0) := by
    simp only [Dk.read, ha, ne_eq, not_true_eq_false, if_false, Int.toNat_natCast]
    rfl
  rw [hr]
  refine ⟨rfl, fun hw => ?_, fun hp => ?_⟩
  · simp only
    rw [tears_keep j _ _ _ (h5 j hj hw), h4 j hj]
  · subst hp
    simp only
    have : Dk.tears D.l D.waits [] = D.l := by cases D.waits <;> rfl
    rw [this, h4 j hj]

/-- A row of cells. -/
def RowT (w : World) (g : Nat) (vs : List Value) (t : TypeId) : Prop := w.heap[g]? = some (.cells vs.toArray t (0, 0))
theorem RowT.lt {w : World} {g : Nat} {vs : List Value} {t : TypeId} (h : RowT w g vs t) : g < w.heap.size := (Array.getElem?_eq_some_iff.1 h).1
theorem RowT.keep {F : Nat → Prop} {w w' : World} {g : Nat} {vs : List Value} {t : TypeId} (h : RowT w g vs t) (hk : Kp F w w') (hF : ¬ F g) : RowT w' g vs t := (hk.block g h.lt hF).trans h
theorem RowT.below {w w' : World} {g : Nat} {vs : List Value} {t : TypeId} (h : RowT w g vs t) (hb : Below w.heap.size w w') : RowT w' g vs t := (hb.block g h.lt).trans h
theorem RowT.set {w : World} {g : Nat} {vs : List Value} {t : TypeId} (h : RowT w g vs t) (k : Nat) (v : Value) : RowT (w.setCell ⟨g, k, none⟩ v) g (vs.set k v) t := by
  unfold RowT
  rw [heap_setCell_same _ _ _ _ _ _ h]
  simp
theorem RowT.cell {w : World} {g : Nat} {vs : List Value} {t : TypeId} (h : RowT w g vs t) (k : Nat) (v : Value) (hv : vs[k]? = some v) : w.cell? ⟨g, k, none⟩ = some v := by
  rw [cell_of_row _ _ _ _ _ _ h]
  simpa using hv
theorem RowT.free {w : World} {g : Nat} {vs : List Value} {t : TypeId} (h : RowT w g vs t) (k : Nat) : w.frozen? ⟨g, k, none⟩ = false := frozen_of_row _ _ _ _ _ h

theorem made_one (v : Value) (n : Nat) : (madeCells #[v] n).toList = List.replicate n v := by
  have e2 : ∀ x : Nat, (#[v] : Array Value)[x % (#[v] : Array Value).size]! = v := by
    intro x
    rw [show x % (#[v] : Array Value).size = 0 from Nat.mod_one x]
    rfl
  unfold madeCells
  simp only [e2]
  simp [List.map_const']
/-- A row of bools. -/
def boolsL (m : Nat) (f : Nat → Bool) : List Value := (List.range m).map fun j => .bool (f j)
theorem boolsL_false (m : Nat) : List.replicate m (Value.bool false) = boolsL m (fun _ => false) := by simp [boolsL, List.map_const']
theorem boolsL_at (m : Nat) (f : Nat → Bool) (j : Nat) (h : j < m) : (boolsL m f)[j]? = some (.bool (f j)) := by simp [boolsL, h]
theorem boolsL_set (m : Nat) (f : Nat → Bool) (k : Nat) : (boolsL m f).set k (.bool true) = boolsL m (fun j => if k = j then true else f j) := by
  apply List.ext_getElem?
  intro j
  by_cases hj : j < m
  · rw [boolsL_at m _ j hj]
    by_cases e : k = j
    · subst e
      rw [List.getElem?_set_self (by simp [boolsL, hj])]
      simp
    · rw [List.getElem?_set_ne e, boolsL_at m _ j hj]
      simp [e]
  · rw [List.getElem?_eq_none (by simp [boolsL]; omega), List.getElem?_eq_none (by simp [boolsL]; omega)]

theorem slTBo : NB.SlT Try.prog 38 4 (.bool false) 1 1 :=
  ⟨Try.underlying38, info_parts (by kernel_rfl), rfl, by omega⟩

set_option maxRecDepth 100000 in
set_option maxHeartbeats 4000000 in
theorem law_sure (w : World) (a : Option Addr) (n c : Nat) (t : List UInt8) (a' : Option Addr) (n' c' : Nat) (t' : List UInt8) (a2 : Option Addr) (n2 c2 : Nat) (pick : List UInt8) (h : NB.RdB w a n c t) (h' : NB.RdB w a' n' c' t') (h2 : NB.RdB w a2 n2 c2 pick) :
    Calls Try.prog 6 #[.slice a n c, .slice a' n' c', .slice a2 n2 c2] w fun e w' => e = .returned (.bool true) ∧ Below w.heap.size w w' := by
  obtain ⟨i, hi, hz, hsz, hby⟩ := slTBo.hi
  have hbd := Rd.bound h
  have hbd' := Rd.bound h'
  have hbd2 := Rd.bound h2
  have hpl := NB.RdB.size h2
  by_cases hn : n ≤ 16 ∧ n' ≤ 20
  · obtain ⟨hn, hn'⟩ := hn
    have hnz : (n : Int) ≤ 16 := by omega
    have hnz' : (n' : Int) ≤ 20 := by omega
    by_cases h0 : n = 0
    · subst h0
      go_enter Try.func6, Try.ntmps6
      go_wp2_with (first
          | (go_at_call 9; refine (awake_any _).mono ?_; rintro e w1 ⟨rfl, hb1⟩))
      go_ret
      exact ⟨rfl, hb1⟩
    · have hn0 : ((n : Int) == 0) = false := by simp [h0]
      have hs0 := su_0 n
      have hw0 : (Dk.fresh n).waits.length = 0 := rfl
      go_enter Try.func6, Try.ntmps6
      go_wp2_with (first
        | (go_at_call 9; refine (awake_any _).mono ?_; rintro e w1 ⟨rfl, hb1⟩)
        | (go_at_call 10; refine (dnew_any _ n (by omega) (by omega)).mono ?_; rintro e w2 ⟨p, F2, rfl, hD2, hb2⟩; have B2 := bel hb1 hb2 hb1.size))
      have hbase := hb1.size
      have k2 : (2 : Nat) ≤ maxLen := by unfold maxLen; omega
      have k3 : (3 : Nat) ≤ maxLen := by unfold maxLen; omega
      have HS : ∃ f : Nat → List UInt8, f = fun j => filledL [t.getD j 0, 1] false := ⟨_, rfl⟩
      obtain ⟨fS, hfS⟩ := HS
      have HFS := Go.Lib.hid hfS; clear hfS
      generalize Dk.fresh n = D0 at *
      clear hb2 hb1
      go_loopw [11] (fun i wr => ∃ (m : Nat) (D : Dk) (F : Nat → Prop) (f : Nat → List UInt8), m ≤ n ∧ i = .int .i64 m ∧ HasD wr w1.heap.size p F D ∧ SuInv n D f ∧ D.waits.length = m ∧ (∀ j, j < m → f j = fS j) ∧ Below w.heap.size w wr) (fun i _ => n - (intOf i).toNat)
      case atStart => exact ⟨0, D0, F2, _, by omega, rfl, hD2, hs0, hw0, (fun j hj => absurd hj (by omega)), B2⟩
      case round =>
        clear B2 hD2 hs0 hw0
        obtain ⟨m, D, F, f, hm, rfl, hD, hI, hw, hf, hB⟩ := hrel
        by_cases hlt : m < n
        · have hmi : (m : Int) < (n : Int) := by omega
          obtain ⟨b3, o3, q3, rfl⟩ := byte_at (h.below hB) m hlt
          have hfm : fS m = filledL [t.getD m 0, 1] false := by rw [HFS.out]
          generalize t.getD m 0 = y at *
          have hfl := filled_len [y, 1]
          obtain ⟨hI2, hE2, hw2⟩ := su_w hI m hlt _ hfl
          have HI2 := Go.Lib.hid hI2; have HE := Go.Lib.hid hE2; have HF := Go.Lib.hid hf; have HFM := Go.Lib.hid hfm; clear hI hI2 hE2 hf hfm
          have Ba := hB.alloc hB.size (.cells #[.int .u8 (y.toNat : Int), .int .u8 1] 5)
          have hDa := hD.alloc (.cells #[.int .u8 (y.toNat : Int), .int .u8 1] 5)
          go_wp2_with (first
            | (go_at_call 11; refine (filled_any _ (some ⟨wr.heap.size, 0, none⟩) 2 2 [y, 1] false (NB.rdB_lit (n := 2) [y, 1] rfl rfl k2 rfl)).mono ?_; rintro e w4 ⟨a4, c4, rfl, ho4, hb4⟩; have of4 := Off.fresh ho4 (fun k hk => (hDa.foot k hk).2); rw [hfl] at of4 ⊢; have B4 := bel Ba hb4 Ba.size; have hD4 := hDa.below hb4)
            | (go_at_call 12; refine (dwrite_any _ _ _ _ _ (m : Int) _ _ _ _ hD4 of4 (by omega)).mono ?_; rintro e w5 ⟨rfl, F5, hD5, hS5⟩; rw [HE.out]))
          go_roundw
          case rel => exact ⟨m + 1, _, F5, _, by omega, by go_num, hD5, HI2.out, by omega, (fun j hj => by
            by_cases e : m = j
            · subst e; rw [if_pos rfl, HFM.out]
            · rw [if_neg e]; exact HF.out j (by omega)), bel B4 (hD4.low hS5) hbase⟩
          case measure => simp [intOf]; omega
        · obtain rfl : m = n := by omega
          obtain ⟨hI2, hE2, hw2⟩ := su_s hI
          have hI3 : SrInv m D.sync.1 fS (fun _ => false) := ⟨hI2.1, hI2.2.1, hI2.2.2.1, fun j hj => (hI2.2.2.2.1 j hj).trans (hf j hj), hI2.2.2.2.2⟩
          have HI3 := Go.Lib.hid hI3; have HE := Go.Lib.hid hE2; clear hI2 hE2 hI hI3 hf
          go_wp2_with (first
            | (go_at_call 13; refine (dsync_any _ _ _ _ _ hD (by omega)).mono ?_; rintro e w3 ⟨rfl, F3, hD3, hS3⟩; rw [HE.out]; have B3 := bel hB (hD.low hS3) hbase)
            | (at_make; refine wpList_make_full w3 rfl (.tmp 58) (.tmp 58) 38 rfl w3.heap.size 4 i (.bool false) 1 slTBo.ht hi hz hsz .i64 .i64 m m m rfl rfl rfl rfl (by rw [hby]; omega) (by unfold maxLen; omega) (Nat.le_refl _) ?_; intro w4 ho4 hg4))
          have hb4 : Below w3.heap.size w3 w4 := (Below.refl _ w3).grown hg4 (Nat.le_refl _) (by rintro k hk; cases hk)
          have hr4 : RowT w4 w3.heap.size (boolsL m (fun _ => false)) 4 := by
            have := row_full ho4
            rw [show (Value.bool false).cells = #[.bool false] from rfl, Nat.mul_one, made_one, boolsL_false] at this
            exact this
          have hD4 := hD3.below hb4
          have B4 := bel B3 hb4 B3.size
          have hFG : ¬ F3 w3.heap.size := fun hf => by have := (hD3.foot _ hf).2; omega
          have hGw : w.heap.size ≤ w3.heap.size := B3.size
          have hw3 : D.sync.1.waits.length = 0 := by rw [hw2]; rfl
          have hI4 := HI3.out
          clear HI3 HE hw2 hw hD3 hS3 hb4 ho4 hg4 B3 hD hB
          generalize w3.heap.size = G at *
          generalize D.sync.1 = D3 at *
          go_loopw [13] (fun i wr => ∃ (q : Nat) (D : Dk) (F : Nat → Prop) (wf : Nat → Bool), q ≤ n' ∧ i = .int .i64 q ∧ HasD wr w1.heap.size p F D ∧ SrInv m D fS wf ∧ D.waits.length = q ∧ RowT wr G (boolsL m wf) 4 ∧ ¬ F G ∧ Below w.heap.size w wr) (fun i _ => n' - (intOf i).toNat)
          case atStart => exact ⟨0, D3, F3, _, by omega, rfl, hD4, hI4, hw3, hr4, hFG, B4⟩
          case round =>
            clear hD4 hI4 hw3 hr4 hFG B4
            obtain ⟨q, D, F, wf, hq, rfl, hD, hI, hw, hr, hFG, hB⟩ := hrel
            by_cases hlt : q < n'
            · have hqi : (q : Int) < (n' : Int) := by omega
              obtain ⟨b3, o3, q3, rfl⟩ := byte_at (h'.below hB) q hlt
              generalize t'.getD q 0 = y at *
              have hy := y.toNat_lt
              obtain ⟨k, hk⟩ : ∃ k : Nat, y.toNat % m = k := ⟨_, rfl⟩
              have hkm : k < m := by rw [← hk]; exact Nat.mod_lt _ (by omega)
              have hkmi : (k : Int) < (m : Int) := by omega
              have hki : (y.toNat : Int) % (m : Int) = (k : Int) := by rw [← hk]; simp
              have HK := Go.Lib.hid hk; clear hk
              have hfl := filled_len [y, 2, 3]
              obtain ⟨hI2, hE2, hw2⟩ := sr_w hI k hkm _ hfl
              have HI2 := Go.Lib.hid hI2; have HE := Go.Lib.hid hE2; clear hI hI2 hE2
              have Ba := hB.alloc hB.size (.cells #[.int .u8 (y.toNat : Int), .int .u8 2, .int .u8 3] 5)
              have hDa := hD.alloc (.cells #[.int .u8 (y.toNat : Int), .int .u8 2, .int .u8 3] 5)
              have hra := hr.below ((Below.refl _ wr).alloc (Nat.le_refl _) (.cells #[.int .u8 (y.toNat : Int), .int .u8 2, .int .u8 3] 5))
              go_wp2_with (first
                | (go_at_call 11; refine (filled_any _ (some ⟨wr.heap.size, 0, none⟩) 3 3 [y, 2, 3] false (NB.rdB_lit (n := 3) [y, 2, 3] rfl rfl k3 rfl)).mono ?_; rintro e w4 ⟨a4, c4, rfl, ho4, hb4⟩; have of4 := Off.fresh ho4 (fun k hk => (hDa.foot k hk).2); rw [hfl] at of4 ⊢; have B4 := bel Ba hb4 Ba.size; have hD4 := hDa.below hb4; have hr4 := hra.below hb4)
                | (go_at_call 12; refine (dwrite_any _ _ _ _ _ (k : Int) _ _ _ _ hD4 of4 (by omega)).mono ?_; rintro e w5 ⟨rfl, F5, hD5, hS5⟩; rw [HE.out]; have hr5 := hr4.keep hS5.kp hFG; have q5 := hr5.cell k _ (boolsL_at m wf k hkm); have f5 := hr5.free k))
              have hF5 : ¬ F5 G := fun hf => by
                rcases hS5.sub G hf with h1 | h1
                · exact hFG h1
                · have := hr4.lt; omega
              have hr6 := hr5.set k (.bool true)
              rw [boolsL_set] at hr6
              have hD6 := hD5.keep ((Kp.refl (fun k => k = G) w5).setCell (x := ⟨G, k, none⟩) (.inl rfl) (.bool true)) (fun k hk e => hF5 (e ▸ hk))
              have B6 := (bel B4 (hD4.low hS5) hbase).setCell (p := ⟨G, k, none⟩) hGw (.bool true)
              go_roundw
              case rel => exact ⟨q + 1, _, F5, _, by omega, by go_num, hD6, HI2.out, by omega, hr6, hF5, B6⟩
              case measure => simp [intOf]; omega
            · obtain rfl : q = n' := by omega
              obtain ⟨hC1, hC2, hC3⟩ := sr_c hI pick
              have HC3 := Go.Lib.hid hC3; clear hC3 hI
              go_wp2_with (first
                | (go_at_call 16; refine (dwaits_any _ _ _ _ _ hD).mono ?_; rw [hw]; rintro e w' ⟨rfl, e2⟩; subst w')
                | (go_at_call 15; refine (dcrash_any _ _ _ _ _ a2 n2 c2 pick hD (off_under h2 hB hD hbase) (by omega)).mono ?_; rintro e w4 ⟨rfl, F4, hD4, hS4⟩))
              have B4 := bel hB (hD.low hS4) hbase
              have hr4 := hr.keep hS4.kp hFG
              generalize D.crash pick = C at *
              clear hD hr hB hS4 hFG hw
              go_loopw [15] (fun i wr => ∃ (q : Nat), q ≤ m ∧ i = .int .i64 q ∧ HasD wr w1.heap.size p F4 C ∧ RowT wr G (boolsL m wf) 4 ∧ Below w.heap.size w wr) (fun i _ => m - (intOf i).toNat)
              case atStart => exact ⟨0, by omega, rfl, hD4, hr4, B4⟩
              case round =>
                clear hD4 hr4 B4
                obtain ⟨j, hj, rfl, hD, hr, hB⟩ := hrel
                by_cases hlt : j < m
                · have hji : (j : Int) < (m : Int) := by omega
                  obtain ⟨hr0, hrw, hrp⟩ := HC3.out j hlt
                  obtain ⟨b3, o3, qw, ha⟩ := byte_at h j hlt
                  subst ha
                  have lw := World.block_lt_of_cell? w _ qw
                  have hfj : fS j = filledL [t.getD j 0, 1] false := by rw [HFS.out]
                  generalize t.getD j 0 = s at *
                  rw [hfj] at hrw hrp
                  have HRD := Go.Lib.hid (dread_any wr _ _ _ _ (j : Int) hD (by rw [hC1]; simp))
                  generalize C.read (j : Int) = r at *
                  have HR0 := Go.Lib.hid hr0; have HRW := Go.Lib.hid hrw; have HRP := Go.Lib.hid hrp; clear hr0 hrw hrp hfj
                  go_wp2_with (first
                    | (go_at_call 14; refine HRD.out.mono ?_; rintro e w9 ⟨a9, c9, rfl, ho9, hb9⟩; rw [HR0.out]))
                  have r9 := (Off.fresh (F := fun _ => False) ho9 (fun _ h => h.elim)).rd
                  have rd := Go.Lib.hid (Rd.below r9 (Below.refl _ w9).drew)
                  have hDv := (hD.below hb9).below (Below.refl _ w9).drew
                  have hRv := (hr.below hb9).below (Below.refl _ w9).drew
                  have Bv := (bel hB hb9 hB.size).drew
                  clear r9 hb9 ho9 hD hr hB HRD
                  generalize r.1 = g at *
                  have hcs : ∀ W, Below w.heap.size w W → W.cell? ⟨b3, o3 + j, none⟩ = some (.int .u8 (s.toNat : Int)) := fun W hW => (hW.cell (p := ⟨b3, o3 + j, none⟩) lw).trans qw
                  have HCS := Go.Lib.hid hcs; clear hcs
                  have hjm : j < m := hlt
                  refine NB.wp_region_m (by kernel_rfl) ?_
                  generalize w9.drew = v at *
                  have cs := HCS.out v Bv
                  have cw := hRv.cell j _ (boolsL_at m wf j hlt)
                  cases hwf : wf j with
                  | true =>
                    rw [hwf] at cw
                    refine NB.any_p 0 rfl (by kernel_rfl) (fun K hK => ?_); go_simp; refine hK _ ?_; clear hK K
                    refine NB.any_p 1 rfl (by kernel_rfl) (fun K hK => ?_); go_simp; refine hK _ ?_; clear hK K
                    refine NB.any_p 2 rfl (by kernel_rfl) (fun K hK => ?_); go_simp; refine hK _ ?_; clear hK K
                    refine NB.any_p 3 rfl (by kernel_rfl) (fun K hK => ?_); go_simp; refine hK _ ?_; clear hK K
                    refine NB.any_p 4 rfl (by kernel_rfl) (fun K hK => ?_); go_simp; refine hK _ ?_; clear hK K
                    refine NB.any_p 5 rfl (by kernel_rfl) (fun K hK => ?_); go_simp; refine hK _ ?_; clear hK K
                    refine NB.any_r 6 rfl (by kernel_rfl) rfl _ (fun w' hw' => NB.run_op_load rfl rfl Try.underlying4 rfl (cw) hw') (fun K hK => ?_); go_simp; refine hK _ ?_; clear hK K
                    refine NB.any_p 7 rfl (by kernel_rfl) (fun K hK => ?_); go_simp; refine hK _ ?_; clear hK K
                    refine NB.any_p 8 rfl (by kernel_rfl) (fun K hK => ?_); go_simp; refine hK _ ?_; clear hK K
                    refine NB.any_p 9 rfl (by kernel_rfl) (fun K hK => ?_); go_simp; refine hK _ ?_; clear hK K
                    refine NB.any_p 10 rfl (by kernel_rfl) (fun K hK => ?_); go_simp; refine hK _ ?_; clear hK K
                    refine NB.any_p 11 rfl (by kernel_rfl) (fun K hK => ?_); go_simp; refine hK _ ?_; clear hK K
                    refine NB.any_p 12 rfl (by kernel_rfl) (fun K hK => ?_); go_simp; refine hK _ ?_; clear hK K
                    refine NB.any_p 13 rfl (by kernel_rfl) (fun K hK => ?_); go_simp; refine hK _ ?_; clear hK K
                    refine NB.any_p 14 rfl (by kernel_rfl) (fun K hK => ?_); go_simp; refine hK _ ?_; clear hK K
                    refine NB.any_e 15 rfl (by kernel_rfl) (fun K hK => ?_); go_simp; refine hK _ _ ?_; clear hK K
                    refine NB.any_e 16 rfl (by kernel_rfl) (fun K hK => ?_); go_simp; refine hK _ _ ?_; clear hK K
                    refine NB.any_p 17 rfl (by kernel_rfl) (fun K hK => ?_); go_simp; refine hK _ ?_; clear hK K
                    refine NB.any_p 18 rfl (by kernel_rfl) (fun K hK => ?_); go_simp; refine hK _ ?_; clear hK K
                    refine NB.any_p 19 rfl (by kernel_rfl) (fun K hK => ?_); go_simp; refine hK _ ?_; clear hK K
                    refine NB.any_p 20 rfl (by kernel_rfl) (fun K hK => ?_); go_simp; refine hK _ ?_; clear hK K
                    refine NB.any_end (by kernel_rfl) ?_
                    clear cs cw
                    go_wp2_with fail
                    have rd3 := Go.Lib.hid (Rd.below rd.out (Below.refl _ v).drew)
                    have hD3 := hDv.below (Below.refl _ v).drew
                    have hR3 := hRv.below (Below.refl _ v).drew
                    have B3 := Bv.drew
                    cases hz2 : ((n2 : Int) == 0) with
                    | true =>
                      have hpe : pick = [] := List.eq_nil_of_length_eq_zero (by have : (n2 : Int) = 0 := by simpa using hz2
                                                                                omega)
                      have HG2 := Go.Lib.hid (HRP.out hpe)
                      refine NB.wp_region_m (by kernel_rfl) ?_
                      generalize v.drew = v3 at *
                      have rd2 := rd3
                      have cs2 := HCS.out v3 B3
                      refine NB.any_p 0 rfl (by kernel_rfl) (fun K hK => ?_); go_simp; refine hK _ ?_; clear hK K
                      refine NB.any_p 1 rfl (by kernel_rfl) (fun K hK => ?_); go_simp; refine hK _ ?_; clear hK K
                      refine NB.any_p 2 rfl (by kernel_rfl) (fun K hK => ?_); go_simp; refine hK _ ?_; clear hK K
                      refine NB.any_p 3 rfl (by kernel_rfl) (fun K hK => ?_); go_simp; refine hK _ ?_; clear hK K
                      refine NB.any_p 4 rfl (by kernel_rfl) (fun K hK => ?_); go_simp; refine hK _ ?_; clear hK K
                      refine NB.any_r 5 rfl (by kernel_rfl) rfl _ (fun w' hw' => NB.run_op_conv_str Try.underlying22 Try.underlying5 Try.underlying9 rfl rfl (Rd.below (rd2.out) hw')) (fun K hK => ?_); go_simp; refine hK _ ?_; clear hK K
                      refine NB.any_p 6 rfl (by kernel_rfl) (fun K hK => ?_); go_simp; refine hK _ ?_; clear hK K
                      refine NB.any_p 7 rfl (by kernel_rfl) (fun K hK => ?_); go_simp; refine hK _ ?_; clear hK K
                      refine NB.any_p 8 rfl (by kernel_rfl) (fun K hK => ?_); go_simp; refine hK _ ?_; clear hK K
                      refine NB.any_r 9 rfl (by kernel_rfl) rfl _ (fun w' hw' => NB.run_op_load rfl rfl Try.underlying5 rfl (cs2) hw') (fun K hK => ?_); go_simp; refine hK _ ?_; clear hK K
                      refine NB.any_e 10 rfl (by kernel_rfl) (fun K hK => ?_); unfold NB.moves; go_simp; refine ⟨(Below.refl _ _).alloc (Nat.le_refl _) _, hK _ _ ?_⟩; clear hK K
                      refine NB.any_e 11 rfl (by kernel_rfl) (fun K hK => ?_); unfold NB.moves; go_simp; refine (filled_any _ (some ⟨v3.heap.size, 0, none⟩) 2 2 [s, 1] false (NB.rdB_lit (n := 2) (cs := #[.int .u8 (s.toNat : Int), .int .u8 1]) [s, 1] rfl rfl k2 rfl)).mono ?_; rintro e v4 ⟨aF, cF, rfl, hoF, hbF⟩; refine ⟨_, rfl, (by simpa using hbF), hK _ _ ?_⟩; clear hK K
                      have rF := (Off.fresh (F := fun _ => False) hoF (fun _ h => h.elim)).rd
                      have B4 := bel (B3.alloc B3.size (.cells #[.int .u8 (s.toNat : Int), .int .u8 1] 5)) hbF (by have := B3.size; simp; omega)
                      have hD4 := (hD3.alloc (.cells #[.int .u8 (s.toNat : Int), .int .u8 1] 5)).below hbF
                      have hR4 := (hR3.below ((Below.refl _ v3).alloc (Nat.le_refl _) (.cells #[.int .u8 (s.toNat : Int), .int .u8 1] 5))).below hbF
                      try rw [HG2.out]
                      refine NB.any_r 12 rfl (by kernel_rfl) rfl _ (fun w' hw' => NB.run_op_conv_str Try.underlying22 Try.underlying5 Try.underlying9 rfl rfl (Rd.below (rF) hw')) (fun K hK => ?_); go_simp; refine hK _ ?_; clear hK K
                      refine NB.any_p 13 rfl (by kernel_rfl) (fun K hK => ?_); go_simp; refine hK _ ?_; clear hK K
                      refine NB.any_p 14 rfl (by kernel_rfl) (fun K hK => ?_); go_simp; refine hK _ ?_; clear hK K
                      refine NB.any_end (by kernel_rfl) ?_
                      clear cs2
                      go_wp2_with fail
                      go_roundw
                      case rel => exact ⟨j + 1, by omega, by go_num, hD4, hR4, B4⟩
                      case measure => simp [intOf]; omega
                    | false =>
                      refine NB.wp_region_m (by kernel_rfl) ?_
                      generalize v.drew = v3 at *
                      refine NB.any_p 0 rfl (by kernel_rfl) (fun K hK => ?_); go_simp; refine hK _ ?_; clear hK K
                      refine NB.any_p 1 rfl (by kernel_rfl) (fun K hK => ?_); go_simp; refine hK _ ?_; clear hK K
                      refine NB.any_p 2 rfl (by kernel_rfl) (fun K hK => ?_); go_simp; refine hK _ ?_; clear hK K
                      refine NB.any_p 3 rfl (by kernel_rfl) (fun K hK => ?_); go_simp; refine hK _ ?_; clear hK K
                      refine NB.any_p 4 rfl (by kernel_rfl) (fun K hK => ?_); go_simp; refine hK _ ?_; clear hK K
                      refine NB.any_p 5 rfl (by kernel_rfl) (fun K hK => ?_); go_simp; refine hK _ ?_; clear hK K
                      refine NB.any_p 6 rfl (by kernel_rfl) (fun K hK => ?_); go_simp; refine hK _ ?_; clear hK K
                      refine NB.any_p 7 rfl (by kernel_rfl) (fun K hK => ?_); go_simp; refine hK _ ?_; clear hK K
                      refine NB.any_p 8 rfl (by kernel_rfl) (fun K hK => ?_); go_simp; refine hK _ ?_; clear hK K
                      refine NB.any_p 9 rfl (by kernel_rfl) (fun K hK => ?_); go_simp; refine hK _ ?_; clear hK K
                      refine NB.any_e 10 rfl (by kernel_rfl) (fun K hK => ?_); go_simp; refine hK _ _ ?_; clear hK K
                      refine NB.any_e 11 rfl (by kernel_rfl) (fun K hK => ?_); go_simp; refine hK _ _ ?_; clear hK K
                      refine NB.any_p 12 rfl (by kernel_rfl) (fun K hK => ?_); go_simp; refine hK _ ?_; clear hK K
                      refine NB.any_p 13 rfl (by kernel_rfl) (fun K hK => ?_); go_simp; refine hK _ ?_; clear hK K
                      refine NB.any_p 14 rfl (by kernel_rfl) (fun K hK => ?_); go_simp; refine hK _ ?_; clear hK K
                      refine NB.any_end (by kernel_rfl) ?_
                      go_wp2_with fail
                      go_roundw
                      case rel => exact ⟨j + 1, by omega, by go_num, hD3, hR3, B3⟩
                      case measure => simp [intOf]; omega
                  | false =>
                    rw [hwf] at cw
                    have HG := Go.Lib.hid (HRW.out hwf)
                    refine NB.any_p 0 rfl (by kernel_rfl) (fun K hK => ?_); go_simp; refine hK _ ?_; clear hK K
                    refine NB.any_p 1 rfl (by kernel_rfl) (fun K hK => ?_); go_simp; refine hK _ ?_; clear hK K
                    refine NB.any_p 2 rfl (by kernel_rfl) (fun K hK => ?_); go_simp; refine hK _ ?_; clear hK K
                    refine NB.any_p 3 rfl (by kernel_rfl) (fun K hK => ?_); go_simp; refine hK _ ?_; clear hK K
                    refine NB.any_p 4 rfl (by kernel_rfl) (fun K hK => ?_); go_simp; refine hK _ ?_; clear hK K
                    refine NB.any_p 5 rfl (by kernel_rfl) (fun K hK => ?_); go_simp; refine hK _ ?_; clear hK K
                    refine NB.any_r 6 rfl (by kernel_rfl) rfl _ (fun w' hw' => NB.run_op_load rfl rfl Try.underlying4 rfl (cw) hw') (fun K hK => ?_); go_simp; refine hK _ ?_; clear hK K
                    refine NB.any_p 7 rfl (by kernel_rfl) (fun K hK => ?_); go_simp; refine hK _ ?_; clear hK K
                    refine NB.any_p 8 rfl (by kernel_rfl) (fun K hK => ?_); go_simp; refine hK _ ?_; clear hK K
                    refine NB.any_p 9 rfl (by kernel_rfl) (fun K hK => ?_); go_simp; refine hK _ ?_; clear hK K
                    refine NB.any_r 10 rfl (by kernel_rfl) rfl _ (fun w' hw' => NB.run_op_conv_str Try.underlying22 Try.underlying5 Try.underlying9 rfl rfl (Rd.below (rd.out) hw')) (fun K hK => ?_); go_simp; refine hK _ ?_; clear hK K
                    refine NB.any_p 11 rfl (by kernel_rfl) (fun K hK => ?_); go_simp; refine hK _ ?_; clear hK K
                    refine NB.any_p 12 rfl (by kernel_rfl) (fun K hK => ?_); go_simp; refine hK _ ?_; clear hK K
                    refine NB.any_p 13 rfl (by kernel_rfl) (fun K hK => ?_); go_simp; refine hK _ ?_; clear hK K
                    refine NB.any_r 14 rfl (by kernel_rfl) rfl _ (fun w' hw' => NB.run_op_load rfl rfl Try.underlying5 rfl (cs) hw') (fun K hK => ?_); go_simp; refine hK _ ?_; clear hK K
                    refine NB.any_e 15 rfl (by kernel_rfl) (fun K hK => ?_); unfold NB.moves; go_simp; refine ⟨(Below.refl _ _).alloc (Nat.le_refl _) _, hK _ _ ?_⟩; clear hK K
                    refine NB.any_e 16 rfl (by kernel_rfl) (fun K hK => ?_); unfold NB.moves; go_simp; refine (filled_any _ (some ⟨v.heap.size, 0, none⟩) 2 2 [s, 1] false (NB.rdB_lit (n := 2) (cs := #[.int .u8 (s.toNat : Int), .int .u8 1]) [s, 1] rfl rfl k2 rfl)).mono ?_; rintro e v2 ⟨aF, cF, rfl, hoF, hbF⟩; refine ⟨_, rfl, (by simpa using hbF), hK _ _ ?_⟩; clear hK K
                    have rF := (Off.fresh (F := fun _ => False) hoF (fun _ h => h.elim)).rd
                    have Bvv : Below v.heap.size v v2 := ((Below.refl _ v).alloc (Nat.le_refl _) (.cells #[.int .u8 (s.toNat : Int), .int .u8 1] 5)).trans (hbF.mono (by simp))
                    have Bv2 := bel Bv Bvv Bv.size
                    have hD2' := hDv.below Bvv
                    have hR2' := hRv.below Bvv
                    have RD2 := Rd.below rd.out Bvv
                    rw [HG.out]
                    refine NB.any_r 17 rfl (by kernel_rfl) rfl _ (fun w' hw' => NB.run_op_conv_str Try.underlying22 Try.underlying5 Try.underlying9 rfl rfl (Rd.below (rF) hw')) (fun K hK => ?_); go_simp; refine hK _ ?_; clear hK K
                    refine NB.any_p 18 rfl (by kernel_rfl) (fun K hK => ?_); go_simp; refine hK _ ?_; clear hK K
                    refine NB.any_p 19 rfl (by kernel_rfl) (fun K hK => ?_); go_simp; refine hK _ ?_; clear hK K
                    refine NB.any_p 20 rfl (by kernel_rfl) (fun K hK => ?_); go_simp; refine hK _ ?_; clear hK K
                    refine NB.any_end (by kernel_rfl) ?_
                    rw [HG.out] at RD2
                    clear cs cw hoF hbF rF hDv hRv Bv
                    go_wp2_with fail
                    have rd3 := Go.Lib.hid (Rd.below RD2 (Below.refl _ v2).drew)
                    have hD3 := hD2'.below (Below.refl _ v2).drew
                    have hR3 := hR2'.below (Below.refl _ v2).drew
                    have B3 := Bv2.drew
                    cases hz2 : ((n2 : Int) == 0) with
                    | true =>
                      have hpe : pick = [] := List.eq_nil_of_length_eq_zero (by have : (n2 : Int) = 0 := by simpa using hz2
                                                                                omega)
                      have HG2 := Go.Lib.hid (HRP.out hpe)
                      refine NB.wp_region_m (by kernel_rfl) ?_
                      generalize v2.drew = v3 at *
                      have rd2 := rd3
                      have cs2 := HCS.out v3 B3
                      refine NB.any_p 0 rfl (by kernel_rfl) (fun K hK => ?_); go_simp; refine hK _ ?_; clear hK K
                      refine NB.any_p 1 rfl (by kernel_rfl) (fun K hK => ?_); go_simp; refine hK _ ?_; clear hK K
                      refine NB.any_p 2 rfl (by kernel_rfl) (fun K hK => ?_); go_simp; refine hK _ ?_; clear hK K
                      refine NB.any_p 3 rfl (by kernel_rfl) (fun K hK => ?_); go_simp; refine hK _ ?_; clear hK K
                      refine NB.any_p 4 rfl (by kernel_rfl) (fun K hK => ?_); go_simp; refine hK _ ?_; clear hK K
                      refine NB.any_r 5 rfl (by kernel_rfl) rfl _ (fun w' hw' => NB.run_op_conv_str Try.underlying22 Try.underlying5 Try.underlying9 rfl rfl (Rd.below (rd2.out) hw')) (fun K hK => ?_); go_simp; refine hK _ ?_; clear hK K
                      refine NB.any_p 6 rfl (by kernel_rfl) (fun K hK => ?_); go_simp; refine hK _ ?_; clear hK K
                      refine NB.any_p 7 rfl (by kernel_rfl) (fun K hK => ?_); go_simp; refine hK _ ?_; clear hK K
                      refine NB.any_p 8 rfl (by kernel_rfl) (fun K hK => ?_); go_simp; refine hK _ ?_; clear hK K
                      refine NB.any_r 9 rfl (by kernel_rfl) rfl _ (fun w' hw' => NB.run_op_load rfl rfl Try.underlying5 rfl (cs2) hw') (fun K hK => ?_); go_simp; refine hK _ ?_; clear hK K
                      refine NB.any_e 10 rfl (by kernel_rfl) (fun K hK => ?_); unfold NB.moves; go_simp; refine ⟨(Below.refl _ _).alloc (Nat.le_refl _) _, hK _ _ ?_⟩; clear hK K
                      refine NB.any_e 11 rfl (by kernel_rfl) (fun K hK => ?_); unfold NB.moves; go_simp; refine (filled_any _ (some ⟨v3.heap.size, 0, none⟩) 2 2 [s, 1] false (NB.rdB_lit (n := 2) (cs := #[.int .u8 (s.toNat : Int), .int .u8 1]) [s, 1] rfl rfl k2 rfl)).mono ?_; rintro e v4 ⟨aF, cF, rfl, hoF, hbF⟩; refine ⟨_, rfl, (by simpa using hbF), hK _ _ ?_⟩; clear hK K
                      have rF := (Off.fresh (F := fun _ => False) hoF (fun _ h => h.elim)).rd
                      have B4 := bel (B3.alloc B3.size (.cells #[.int .u8 (s.toNat : Int), .int .u8 1] 5)) hbF (by have := B3.size; simp; omega)
                      have hD4 := (hD3.alloc (.cells #[.int .u8 (s.toNat : Int), .int .u8 1] 5)).below hbF
                      have hR4 := (hR3.below ((Below.refl _ v3).alloc (Nat.le_refl _) (.cells #[.int .u8 (s.toNat : Int), .int .u8 1] 5))).below hbF
                      try rw [HG2.out]
                      refine NB.any_r 12 rfl (by kernel_rfl) rfl _ (fun w' hw' => NB.run_op_conv_str Try.underlying22 Try.underlying5 Try.underlying9 rfl rfl (Rd.below (rF) hw')) (fun K hK => ?_); go_simp; refine hK _ ?_; clear hK K
                      refine NB.any_p 13 rfl (by kernel_rfl) (fun K hK => ?_); go_simp; refine hK _ ?_; clear hK K
                      refine NB.any_p 14 rfl (by kernel_rfl) (fun K hK => ?_); go_simp; refine hK _ ?_; clear hK K
                      refine NB.any_end (by kernel_rfl) ?_
                      clear cs2
                      go_wp2_with fail
                      go_roundw
                      case rel => exact ⟨j + 1, by omega, by go_num, hD4, hR4, B4⟩
                      case measure => simp [intOf]; omega
                    | false =>
                      refine NB.wp_region_m (by kernel_rfl) ?_
                      generalize v2.drew = v3 at *
                      refine NB.any_p 0 rfl (by kernel_rfl) (fun K hK => ?_); go_simp; refine hK _ ?_; clear hK K
                      refine NB.any_p 1 rfl (by kernel_rfl) (fun K hK => ?_); go_simp; refine hK _ ?_; clear hK K
                      refine NB.any_p 2 rfl (by kernel_rfl) (fun K hK => ?_); go_simp; refine hK _ ?_; clear hK K
                      refine NB.any_p 3 rfl (by kernel_rfl) (fun K hK => ?_); go_simp; refine hK _ ?_; clear hK K
                      refine NB.any_p 4 rfl (by kernel_rfl) (fun K hK => ?_); go_simp; refine hK _ ?_; clear hK K
                      refine NB.any_p 5 rfl (by kernel_rfl) (fun K hK => ?_); go_simp; refine hK _ ?_; clear hK K
                      refine NB.any_p 6 rfl (by kernel_rfl) (fun K hK => ?_); go_simp; refine hK _ ?_; clear hK K
                      refine NB.any_p 7 rfl (by kernel_rfl) (fun K hK => ?_); go_simp; refine hK _ ?_; clear hK K
                      refine NB.any_p 8 rfl (by kernel_rfl) (fun K hK => ?_); go_simp; refine hK _ ?_; clear hK K
                      refine NB.any_p 9 rfl (by kernel_rfl) (fun K hK => ?_); go_simp; refine hK _ ?_; clear hK K
                      refine NB.any_e 10 rfl (by kernel_rfl) (fun K hK => ?_); go_simp; refine hK _ _ ?_; clear hK K
                      refine NB.any_e 11 rfl (by kernel_rfl) (fun K hK => ?_); go_simp; refine hK _ _ ?_; clear hK K
                      refine NB.any_p 12 rfl (by kernel_rfl) (fun K hK => ?_); go_simp; refine hK _ ?_; clear hK K
                      refine NB.any_p 13 rfl (by kernel_rfl) (fun K hK => ?_); go_simp; refine hK _ ?_; clear hK K
                      refine NB.any_p 14 rfl (by kernel_rfl) (fun K hK => ?_); go_simp; refine hK _ ?_; clear hK K
                      refine NB.any_end (by kernel_rfl) ?_
                      go_wp2_with fail
                      go_roundw
                      case rel => exact ⟨j + 1, by omega, by go_num, hD3, hR3, B3⟩
                      case measure => simp [intOf]; omega
                · obtain rfl : j = m := by omega
                  go_wp2_with (first
                    | (go_at_call 16; refine (dwaits_any _ _ _ _ _ hD).mono ?_; rw [show C.waits.length = 0 by rw [hC1]; rfl]; rintro e w' ⟨rfl, e2⟩; subst w')
                    | (go_at_call 17; refine (ddown_any _ _ _ _ _ hD).mono ?_; rw [hC2]; rintro e w' ⟨rfl, e2⟩; subst w'))
                  go_ret
                  exact ⟨rfl, hB⟩
  · have hnz : ¬ ((n : Int) ≤ 16 ∧ (n' : Int) ≤ 20) := by omega
    by_cases hn1 : n ≤ 16
    · have hnz1 : (n : Int) ≤ 16 := by omega
      have hnz2 : ¬ (n' : Int) ≤ 20 := by omega
      go_enter Try.func6, Try.ntmps6
      go_wp2_with (first
          | (go_at_call 9; refine (awake_any _).mono ?_; rintro e w1 ⟨rfl, hb1⟩))
      go_ret
      exact ⟨rfl, hb1⟩
    · have hnz1 : ¬ (n : Int) ≤ 16 := by omega
      go_enter Try.func6, Try.ntmps6
      go_wp2_with (first
          | (go_at_call 9; refine (awake_any _).mono ?_; rintro e w1 ⟨rfl, hb1⟩))
      go_ret
      exact ⟨rfl, hb1⟩
end Go.Proofs.Ytihcppclfclkhaa
