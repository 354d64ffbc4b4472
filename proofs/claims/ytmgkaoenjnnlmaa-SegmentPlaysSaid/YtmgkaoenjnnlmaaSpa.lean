/- The statement SegmentPlays: what holds ahead of each round. No walk in it. -/
import Derived.Test.YtmgkaoenjnnlmaaRux2
import Derived.Test.YtmgkaoenjnnlmaaSgx1
import Derived.Test.YtmgkaoenjnnlmaaBst
namespace Go.Proofs.Ytmgkaoenjnnlmaa
open Go.RowKit
open Go.NB.Crc
open Go.NB (Rd Dk Kp Stp Off Dis val I64)

/-- What holds of the model. -/
structure Bd (N0 k : Nat) (D : Dk) (S : Sg) : Prop where
  dl : D.l.length = N0
  wt : D.waits.length ≤ 92 * k
  frm : S.frm ≤ 24
  n : S.n ≤ 24
  us : S.used ≤ S.n
  ll : S.l.length ≤ S.used
  ep : S.epoch < 4294967296
  bl : ∀ b ∈ S.l, b.length ≤ 4140
theorem write_dk (D : Dk) (i : Int) (b : List UInt8) : (D.write i b).1.l.length = D.l.length ∧ (D.write i b).1.waits.length ≤ D.waits.length + 1 := by
  refine ⟨by rw [write_l], ?_⟩
  unfold Dk.write
  split
  · exact Nat.le_succ _
  split
  · exact Nat.le_succ _
  split
  · exact Nat.le_succ _
  · simp
theorem sync_dk (D : Dk) : D.sync.1.l.length = D.l.length ∧ D.sync.1.waits.length ≤ D.waits.length := by
  unfold Dk.sync
  split
  · exact ⟨rfl, Nat.le_refl _⟩
  split
  · exact ⟨rfl, Nat.le_refl _⟩
  · exact ⟨lay_len _ _, Nat.zero_le _⟩
theorem wrM_dk (S : Sg) (b : List UInt8) (many : Nat) : ∀ (n i : Nat) (D : Dk), (wrM S b many n i D).1.l.length = D.l.length ∧ (wrM S b many n i D).1.waits.length ≤ D.waits.length + n
  | 0, i, D => ⟨rfl, Nat.le_refl _⟩
  | n + 1, i, D => by
    have h1 := write_dk D ((S.frm + S.used + i : Nat) : Int) (blkL S.epoch (S.l.length + 1) i many (piece b i))
    rw [wrM]
    split
    · exact ⟨h1.1, by omega⟩
    · have h2 := wrM_dk S b many n (i + 1) (D.write ((S.frm + S.used + i : Nat) : Int) (blkL S.epoch (S.l.length + 1) i many (piece b i))).1
      exact ⟨h2.1.trans h1.1, by omega⟩
theorem Bd.app {N0 k : Nat} {D : Dk} {S : Sg} (h : Bd N0 k D S) (b : List UInt8) : Bd N0 (k + 1) (appM D S b).1 (appM D S b).2.1 := by
  have hw := wrM_dk S b (needM b.length) (needM b.length) 0 D
  have same : Bd N0 (k + 1) D S := ⟨h.dl, by have := h.wt; (try simp only); omega, h.frm, h.n, h.us, h.ll, h.ep, h.bl⟩
  unfold appM
  split
  · exact same
  rename_i hb
  have hnd := (need_bd b.length (by omega)).2.1
  split
  · exact same
  split
  · exact same
  rename_i hr
  split
  · exact ⟨hw.1.trans h.dl, by have := h.wt; have := hw.2; (try simp only); omega, h.frm, h.n, h.us, h.ll, h.ep, h.bl⟩
  · refine ⟨hw.1.trans h.dl, by have := h.wt; have := hw.2; (try simp only); omega, h.frm, h.n, by simp only; omega, ?_, h.ep, fun x hx => ?_⟩
    · have h1 := (need_bd b.length (by omega)).1
      have := h.ll
      simp only [List.length_append, List.length_singleton]; omega
    · simp only [List.mem_append, List.mem_singleton] at hx
      rcases hx with hx | rfl
      · exact h.bl x hx
      · omega
theorem Bd.syn {N0 k : Nat} {D : Dk} {S : Sg} (h : Bd N0 k D S) : Bd N0 (k + 1) (synM D S).1 (synM D S).2.1 := by
  have hw := sync_dk D
  unfold synM
  split
  · exact ⟨h.dl, by have := h.wt; (try simp only); omega, h.frm, h.n, h.us, h.ll, h.ep, h.bl⟩
  split
  · exact ⟨hw.1.trans h.dl, by have := h.wt; have := hw.2; (try simp only); omega, h.frm, h.n, h.us, h.ll, h.ep, h.bl⟩
  · exact ⟨hw.1.trans h.dl, by have := h.wt; have := hw.2; (try simp only); omega, h.frm, h.n, h.us, h.ll, h.ep, h.bl⟩
theorem Bd.trm {N0 k : Nat} {D : Dk} {S : Sg} (h : Bd N0 k D S) (x : Int) : Bd N0 (k + 1) D (trmM S x) := ⟨h.dl, by have := h.wt; (try simp only); omega, h.frm, h.n, h.us, h.ll, h.ep, h.bl⟩
theorem Bd.stop {N0 k : Nat} {D : Dk} {S : Sg} (h : Bd N0 k D S) (x : Int) : Bd N0 (k + 1) (D.stop x) S := ⟨h.dl, by have := h.wt; show D.waits.length ≤ _; omega, h.frm, h.n, h.us, h.ll, h.ep, h.bl⟩
theorem Bd.write {N0 k : Nat} {D : Dk} {S : Sg} (h : Bd N0 k D S) (i : Int) (b : List UInt8) : Bd N0 (k + 1) (D.write i b).1 S :=
  ⟨(write_dk D i b).1.trans h.dl, by have := h.wt; have := (write_dk D i b).2; omega, h.frm, h.n, h.us, h.ll, h.ep, h.bl⟩
theorem rec_len {R : List (List UInt8)} {u place ep : Nat} {b : List UInt8} {pn x : Nat} (h : recordM R u place ep = some (b, pn, x)) : b.length ≤ 4140 := by
  unfold recordM at h
  split at h
  · cases h
  · rename_i f hf
    split at h
    · cases h
    · rename_i hc
      cases hg : gath R u f f.pn 0 with
      | none => rw [hg] at h; cases h
      | some c =>
        rw [hg] at h
        simp only [Option.map_some, Option.some.injEq, Prod.mk.injEq] at h
        obtain ⟨rfl, rfl, rfl⟩ := h
        have := gath_len _ _ _ hg
        omega
theorem open_lens {R : List (List UInt8)} : ∀ (k : Nat) (l : List (List UInt8)) (u ep : Nat), (∀ b ∈ l, b.length ≤ 4140) → ∀ b ∈ (openLoop R k l u ep).1, b.length ≤ 4140
  | 0, l, u, ep, h => h
  | k + 1, l, u, ep, h => by
    rw [openLoop]
    split
    · exact h
    · rename_i b pn x hr
      refine open_lens k (l ++ [b]) (u + pn) x (fun y hy => ?_)
      simp only [List.mem_append, List.mem_singleton] at hy
      rcases hy with hy | rfl
      · exact h y hy
      · exact rec_len hr
theorem Bd.open {N0 k : Nat} {D : Dk} (h1 : D.l.length = N0) (h2 : D.waits.length ≤ 92 * k) (hN : N0 ≤ 24) (frm n : Int) : Bd N0 k D (if openE D frm n = 0 then openS D frm n else sg0) := by
  split
  · rename_i h
    have ha : ¬ (frm < 0 ∨ n < 1 ∨ (D.l.length : Int) < frm ∨ (D.l.length : Int) - frm < n) := fun hh => by rw [openE_arg hh] at h; cases h
    have ht : topM (regM D frm.toNat n.toNat) < 4294967295 := by
      unfold openE at h
      rw [if_neg ha] at h
      split at h
      · cases h
      · split at h
        · cases h
        · omega
    have hb := open_bound (R := regM D frm.toNat n.toNat) ((regM D frm.toNat n.toNat).length + 1) [] 0 0 (Nat.zero_le _)
    have hl := open_lens (R := regM D frm.toNat n.toNat) ((regM D frm.toNat n.toNat).length + 1) [] 0 0 (fun b hb => nomatch hb)
    have hr := reg_len D frm.toNat n.toNat
    refine ⟨h1, h2, ?_, ?_, ?_, ?_, ?_, hl⟩
    · show frm.toNat ≤ 24; omega
    · show n.toNat ≤ 24; omega
    · show (openLoop (regM D frm.toNat n.toNat) ((regM D frm.toNat n.toNat).length + 1) [] 0 0).2 ≤ n.toNat
      omega
    · show (openLoop (regM D frm.toNat n.toNat) ((regM D frm.toNat n.toNat).length + 1) [] 0 0).1.length ≤ (openLoop (regM D frm.toNat n.toNat) ((regM D frm.toNat n.toNat).length + 1) [] 0 0).2
      have := hb.2; simp only [List.length_nil] at this; omega
    · show topM (regM D frm.toNat n.toNat) + 1 < 4294967296; omega
  · exact ⟨h1, h2, by decide, by decide, by decide, by decide, by decide, fun b hb => nomatch hb⟩
theorem crash_dk (D : Dk) (pick : List UInt8) : (D.crash pick).l.length = D.l.length ∧ (D.crash pick).waits.length = 0 := ⟨NB.tears_len _ _ _, rfl⟩

/-- The blocks of the reference's disk and segment, of their boxes 'g' and 'h', and of 'X'. -/
def Hb (g h : Nat) (dv sv : Value) (X : Nat → Prop) : Nat → Prop := fun k => k = g ∨ k = h ∨ X k ∨ locR dv k ∨ locS sv k
def dvV (D : Dk) (a1 : Option Addr) (c1 : Nat) (a2 : Option Addr) (c2 : Nat) : Value := rdV a1 D.l.length c1 a2 D.waits.length c2 D.left D.down
def svV (S : Sg) (aL : Option Addr) (cL : Nat) : Value := .agg (sgL S aL cL).toArray
def dvL (D : Dk) (a1 : Option Addr) (c1 : Nat) (a2 : Option Addr) (c2 : Nat) : List Value := [.slice a1 D.l.length c1, .slice a2 D.waits.length c2, .int .i64 D.left, .bool D.down]
/-- What the reference's are: 'D' in the box 'g', 'S' in the box 'h'. -/
structure Ps (w0 v : World) (g h : Nat) (D : Dk) (S : Sg) (a1 : Option Addr) (c1 : Nat) (a2 : Option Addr) (c2 : Nat) (aL : Option Addr) (cL : Nat) : Prop where
  rg : Rw v g (dvL D a1 c1 a2 c2) 50
  rh : Rw v h (sgL S aL cL) 55
  rd : RefD v (dvV D a1 c1 a2 c2) D
  rs : RefS v (svV S aL cL) S
  gh : g ≠ h
  low : w0.heap.size ≤ g ∧ w0.heap.size ≤ h
  off : ∀ k, locR (dvV D a1 c1 a2 c2) k ∨ locS (svV S aL cL) k → k ≠ g ∧ k ≠ h ∧ w0.heap.size ≤ k ∧ k < v.heap.size
theorem refD_keep {F : Nat → Prop} {v v' : World} {dv : Value} {D : Dk} (h : RefD v dv D) (hk : Kp F v v') (hF : ∀ k, locR dv k → ¬ F k) : RefD v' dv D := by
  obtain ⟨a1, c1, a2, c2, rfl, h1, h2⟩ := h
  refine ⟨a1, c1, a2, c2, rfl, hk.rd h1 (fun b o e hn => hF b (loc_1 b o e ?_)), hk.rd h2 (fun b o e hn => hF b (loc_2 b o e ?_))⟩
  · cases hq : D.l with
    | nil => rw [hq] at hn; exact absurd rfl hn
    | cons _ _ => simp
  · cases hq : D.waits with
    | nil => rw [hq] at hn; exact absurd rfl hn
    | cons _ _ => simp
theorem refD_low {v : World} {dv : Value} {D : Dk} (h : RefD v dv D) (k : Nat) (hk : locR dv k) : k < v.heap.size := by
  obtain ⟨a1, c1, a2, c2, rfl, h1, h2⟩ := h
  obtain ⟨b1, m1, e1, b2, m2, e2, l2, d2, o, e, h⟩ := hk
  simp only [rdV, Value.agg.injEq, Array.mk.injEq, List.cons.injEq, Value.slice.injEq] at e
  obtain ⟨⟨rfl, rfl, _⟩, ⟨rfl, rfl, _⟩, _⟩ := e
  rcases h with h | h
  · exact rd_low h1 k o h.1 (by intro e2; have := congrArg List.length e2; simp [strsL] at this; rw [this] at h; simp at h)
  · exact rd_low h2 k o h.1 (by intro e2; have := congrArg List.length e2; rw [wsl_len] at this; simp at this; omega)
theorem refS_keep {F : Nat → Prop} {v v' : World} {sv : Value} {S : Sg} (h : RefS v sv S) (hk : Kp F v v') (hF : ∀ k, locS sv k → ¬ F k) : RefS v' sv S := by
  obtain ⟨a, c, rfl, h1⟩ := h
  exact ⟨a, c, rfl, hk.rd h1 (fun b o e hn => hF b ⟨S, a, c, o, rfl, e, fun hq => by rw [hq] at hn; exact hn rfl⟩)⟩
theorem refS_low {v : World} {sv : Value} {S : Sg} (h : RefS v sv S) (k : Nat) (hk : locS sv k) : k < v.heap.size := by
  obtain ⟨a, c, rfl, h1⟩ := h
  obtain ⟨o, e, hn⟩ := locS_row hk
  exact rd_low h1 k o e (by simpa [strsL] using hn)
section
variable {w0 v v' v2 : World} {p q g h : Nat} {D D' E E' : Dk} {S S' m m' : Sg} {a1 a2 aL b1 b2 bL : Option Addr} {c1 c2 cL d1 d2 dL : Nat} {X : Nat → Prop}
theorem Ps.keep {F : Nat → Prop} (h0 : Ps w0 v g h E m a1 c1 a2 c2 aL cL) (hk : Kp F v v') (hF : ∀ k, Hb g h (dvV E a1 c1 a2 c2) (svV m aL cL) X k → ¬ F k) : Ps w0 v' g h E m a1 c1 a2 c2 aL cL :=
  ⟨h0.rg.keep hk (hF g (.inl rfl)), h0.rh.keep hk (hF h (.inr (.inl rfl))), refD_keep h0.rd hk (fun k hl => hF k (.inr (.inr (.inr (.inl hl))))), refS_keep h0.rs hk (fun k hl => hF k (.inr (.inr (.inr (.inr hl))))), h0.gh, h0.low, fun k hl => by
    have h1 := h0.off k hl; have h2 := hk.size; exact ⟨h1.1, h1.2.1, h1.2.2.1, Nat.lt_of_lt_of_le h1.2.2.2 h2⟩⟩
theorem Ps.below (h0 : Ps w0 v g h E m a1 c1 a2 c2 aL cL) (hb : Below v.heap.size v v') : Ps w0 v' g h E m a1 c1 a2 c2 aL cL :=
  h0.keep (X := fun _ => False) (F := fun _ => False) (Kp.of_below hb) (fun _ _ h => h)
/-- The reference's call has been: what it gave lies in the boxes. -/
theorem Ps.put (h0 : Ps w0 v g h E m a1 c1 a2 c2 aL cL) (hb : Below v.heap.size v v') {dv sv : Value} (hd : RefD v' dv E') (hs : RefS v' sv m') (hld : ∀ k, locR dv k → locR (dvV E a1 c1 a2 c2) k ∨ v.heap.size ≤ k) (hls : ∀ k, locS sv k → locS (svV m aL cL) k ∨ v.heap.size ≤ k)
    (ed : dv = dvV E' b1 d1 b2 d2) (es : sv = svV m' bL dL) (hk : Kp (fun k => k = g ∨ k = h) v' v2) (hg : Rw v2 g (dvL E' b1 d1 b2 d2) 50) (hh : Rw v2 h (sgL m' bL dL) 55) : Ps w0 v2 g h E' m' b1 d1 b2 d2 bL dL := by
  subst ed; subst es
  have hlg := h0.rg.lt
  have hlh := h0.rh.lt
  have hl := h0.low
  have hoff : ∀ k, locR (dvV E' b1 d1 b2 d2) k ∨ locS (svV m' bL dL) k → k ≠ g ∧ k ≠ h ∧ w0.heap.size ≤ k ∧ k < v2.heap.size := fun k hk' => by
    have hsz := hk.size
    have hlt : k < v'.heap.size := hk'.elim (refD_low hd k) (refS_low hs k)
    have h1 : (k ≠ g ∧ k ≠ h ∧ w0.heap.size ≤ k ∧ k < v.heap.size) ∨ v.heap.size ≤ k := by
      rcases hk' with h1 | h1
      · exact (hld k h1).imp (fun h2 => h0.off k (.inl h2)) id
      · exact (hls k h1).imp (fun h2 => h0.off k (.inr h2)) id
    rcases h1 with h1 | h1
    · exact ⟨h1.1, h1.2.1, h1.2.2.1, by omega⟩
    · exact ⟨by omega, by omega, by omega, by omega⟩
  exact ⟨hg, hh, refD_keep hd hk (fun k hl' hf => by have h1 := hoff k (.inl hl'); rcases hf with hf | hf; exact h1.1 hf; exact h1.2.1 hf), refS_keep hs hk (fun k hl' hf => by have h1 := hoff k (.inr hl'); rcases hf with hf | hf; exact h1.1 hf; exact h1.2.1 hf), h0.gh, hl, hoff⟩
/-- What the program's own things need of it. -/
theorem Ps.hs (h0 : Ps w0 v g h E m a1 c1 a2 c2 aL cL) (hb : Below v.heap.size v v') (hld : ∀ k, locR (dvV E' b1 d1 b2 d2) k → locR (dvV E a1 c1 a2 c2) k ∨ v.heap.size ≤ k) (hls : ∀ k, locS (svV m' bL dL) k → locS (svV m aL cL) k ∨ v.heap.size ≤ k)
    (hp : Ps w0 v2 g h E' m' b1 d1 b2 d2 bL dL) (hX : ∀ k, X k → k < v2.heap.size) : ∀ k, Hb g h (dvV E' b1 d1 b2 d2) (svV m' bL dL) X k → k < v2.heap.size ∧ (Hb g h (dvV E a1 c1 a2 c2) (svV m aL cL) X k ∨ v.heap.size ≤ k) := by
  rintro k (hk | hk | hk | hk | hk)
  · subst hk; exact ⟨hp.rg.lt, .inl (.inl rfl)⟩
  · subst hk; exact ⟨hp.rh.lt, .inl (.inr (.inl rfl))⟩
  · exact ⟨hX k hk, .inl (.inr (.inr (.inl hk)))⟩
  · exact ⟨(hp.off k (.inl hk)).2.2.2, (hld k hk).imp (fun h => .inr (.inr (.inr (.inl h)))) id⟩
  · exact ⟨(hp.off k (.inr hk)).2.2.2, (hls k hk).imp (fun h => .inr (.inr (.inr (.inr h)))) id⟩
theorem DdH.turn {H H' : Nat → Prop} {w w' : World} (h : DdH H w0 w p D) (hk : Kp H w w') (hs : ∀ k, H' k → k < w'.heap.size ∧ (H k ∨ w.heap.size ≤ k)) (hlow : ∀ k, H k → w0.heap.size ≤ k) : DdH H' w0 w' p D := by
  obtain ⟨based, G, h2, h5, h6, h7⟩ := h
  refine ⟨based, G, h2.keep hk (fun k hf hh => (h7 k hh).2 hf), h5, bel h6 (hk.belowB (B := w0.heap.size) h6.size hlow) (Nat.le_refl _), fun k hk' => ⟨(hs k hk').1, ?_⟩⟩
  rcases (hs k hk').2 with h8 | h8
  · exact (h7 k h8).2
  · exact fun hf => by have := (h2.foot k hf).2; omega
theorem DdH.imp {H H' : Nat → Prop} {w : World} (h : DdH H w0 w p D) (hs : ∀ k, H' k → H k) : DdH H' w0 w p D := by
  obtain ⟨based, G, h2, h5, h6, h7⟩ := h
  exact ⟨based, G, h2, h5, h6, fun k hk => h7 k (hs k hk)⟩
theorem Ps.hlow (h0 : Ps w0 v g h E m a1 c1 a2 c2 aL cL) (hX : ∀ k, X k → w0.heap.size ≤ k) : ∀ k, Hb g h (dvV E a1 c1 a2 c2) (svV m aL cL) X k → w0.heap.size ≤ k := by
  rintro k (hk | hk | hk | hk | hk)
  · exact hk ▸ h0.low.1
  · exact hk ▸ h0.low.2
  · exact hX k hk
  · exact (h0.off k (.inl hk)).2.2.1
  · exact (h0.off k (.inr hk)).2.2.1
/-- The blocks that turn when the boxes are laid anew, behind a call that makes new memory alone. -/
theorem kp_boxes {H : Nat → Prop} (hb : Below v.heap.size v v') (hk : Kp (fun k => k = g ∨ k = h) v' v2) (hg : H g) (hh : H h) : Kp H v v2 :=
  ⟨hk.os.trans hb.os, hk.tape.trans hb.tape, hk.output.trans hb.output, Nat.le_trans hb.size hk.size, fun k hlt hn => (hk.block k (Nat.lt_of_lt_of_le hlt hb.size) (fun e => by rcases e with rfl | rfl; exact hn hg; exact hn hh)).trans (hb.block k hlt)⟩
/-- The program's segment beside the reference's things, once these have turned. -/
theorem Ps.sdh (h0 : Ps w0 v g h E m a1 c1 a2 c2 aL cL) (hS : SdH (Hb g h (dvV E a1 c1 a2 c2) (svV m aL cL) X) w0 v q p D S) (hb : Below v.heap.size v v') (hk : Kp (fun k => k = g ∨ k = h) v' v2) (hld : ∀ k, locR (dvV E' b1 d1 b2 d2) k → locR (dvV E a1 c1 a2 c2) k ∨ v.heap.size ≤ k) (hls : ∀ k, locS (svV m' bL dL) k → locS (svV m aL cL) k ∨ v.heap.size ≤ k)
    (hp : Ps w0 v2 g h E' m' b1 d1 b2 d2 bL dL) (hX : ∀ k, X k → w0.heap.size ≤ k ∧ k < v.heap.size) : SdH (Hb g h (dvV E' b1 d1 b2 d2) (svV m' bL dL) X) w0 v2 q p D S :=
  hS.turn (kp_boxes hb hk (.inl rfl) (.inr (.inl rfl))) (h0.hs hb hld hls hp (fun k hx => by have h1 := (hX k hx).2; have h2 := hb.size; have h3 := hk.size; omega)) (h0.hlow (fun k hx => (hX k hx).1))
theorem Ps.ddh (h0 : Ps w0 v g h E m a1 c1 a2 c2 aL cL) (hS : DdH (Hb g h (dvV E a1 c1 a2 c2) (svV m aL cL) X) w0 v p D) (hb : Below v.heap.size v v') (hk : Kp (fun k => k = g ∨ k = h) v' v2) (hld : ∀ k, locR (dvV E' b1 d1 b2 d2) k → locR (dvV E a1 c1 a2 c2) k ∨ v.heap.size ≤ k) (hls : ∀ k, locS (svV m' bL dL) k → locS (svV m aL cL) k ∨ v.heap.size ≤ k)
    (hp : Ps w0 v2 g h E' m' b1 d1 b2 d2 bL dL) (hX : ∀ k, X k → w0.heap.size ≤ k ∧ k < v.heap.size) : DdH (Hb g h (dvV E' b1 d1 b2 d2) (svV m' bL dL) X) w0 v2 p D :=
  hS.turn (kp_boxes hb hk (.inl rfl) (.inr (.inl rfl))) (h0.hs hb hld hls hp (fun k hx => by have h1 := (hX k hx).2; have h2 := hb.size; have h3 := hk.size; omega)) (h0.hlow (fun k hx => (hX k hx).1))
/-- A new block is somebody else's from now on. -/
theorem SdH.addB {H : Nat → Prop} (h0 : SdH H w0 v q p D S) (hb : Below v.heap.size v v') (hX : ∀ k, X k → H k ∨ (v.heap.size ≤ k ∧ k < v'.heap.size)) : SdH X w0 v' q p D S := by
  obtain ⟨base, based, F, G, h1, h2, h3, h4, h5, h6, h7⟩ := h0
  refine ⟨base, based, F, G, h1.below hb, h2.below hb, h3, h4, h5, bel h6 hb h6.size, fun k hk => ?_⟩
  rcases hX k hk with h8 | h8
  · exact ⟨Nat.lt_of_lt_of_le (h7 k h8).1 hb.size, (h7 k h8).2⟩
  · exact ⟨h8.2, fun hf => by have := (h1.foot k hf).2; omega, fun hf => by have := (h2.foot k hf).2; omega⟩
theorem SdH.dfacts {H : Nat → Prop} (h0 : SdH H w0 v q p D S) : (-1 ≤ D.left ∧ D.left ≤ 9223372036854775807) ∧ D.l.length ≤ 65536 ∧ (∀ b ∈ D.l, b.length = 64) ∧ (∀ x ∈ D.waits, x.2.length = 64 ∧ x.1 < D.l.length) := by
  obtain ⟨base, based, F, G, h1, h2, _⟩ := h0
  have h3 := h2
  obtain ⟨bl, vW, hd, _⟩ := h2
  exact ⟨hd.left, hd.n, h3.l64, h3.w64⟩
theorem DdH.dfacts {H : Nat → Prop} (h0 : DdH H w0 v p D) : (-1 ≤ D.left ∧ D.left ≤ 9223372036854775807) ∧ D.l.length ≤ 65536 ∧ (∀ b ∈ D.l, b.length = 64) ∧ (∀ x ∈ D.waits, x.2.length = 64 ∧ x.1 < D.l.length) := by
  obtain ⟨based, G, h2, _⟩ := h0
  have h3 := h2
  obtain ⟨bl, vW, hd, _⟩ := h2
  exact ⟨hd.left, hd.n, h3.l64, h3.w64⟩
theorem DdH.alike {H : Nat → Prop} (h0 : DdH H w0 v p D) {dv : Value} (hR : RefD v dv D) (hwn : D.waits.length ≤ 100000) : Calls Try.prog 33 #[.pointer (some ⟨p, 0, none⟩), dv] v fun e w' => e = .returned (.bool true) ∧ Below v.heap.size v w' := by
  obtain ⟨based, G, h2, _⟩ := h0
  exact alike_any v based p G D dv h2 hR hwn
theorem SdH.addX {dv sv : Value} (h0 : SdH (Hb g h dv sv (fun _ => False)) w0 v q p D S) (hb : Below v.heap.size v v') (j : Nat) (h1 : v.heap.size ≤ j) (h2 : j < v'.heap.size) : SdH (Hb g h dv sv (fun k => k = j)) w0 v' q p D S :=
  h0.addB hb (fun k hk => by
    rcases hk with hk | hk | hk | hk | hk
    · exact .inl (.inl hk)
    · exact .inl (.inr (.inl hk))
    · exact .inr (by omega)
    · exact .inl (.inr (.inr (.inr (.inl hk))))
    · exact .inl (.inr (.inr (.inr (.inr hk)))))
theorem hb_drop {dv sv : Value} (k : Nat) (hk : Hb g h dv sv (fun _ => False) k) : Hb g h dv sv X k := by
  rcases hk with hk | hk | hk | hk | hk
  · exact .inl hk
  · exact .inr (.inl hk)
  · exact hk.elim
  · exact .inr (.inr (.inr (.inl hk)))
  · exact .inr (.inr (.inr (.inr hk)))
theorem SdH.dropX {dv sv : Value} (h0 : SdH (Hb g h dv sv X) w0 v q p D S) : SdH (Hb g h dv sv (fun _ => False)) w0 v q p D S := h0.imp hb_drop
end
/-- What is left of a number under a mask. -/
theorem and_le (x : Int) (m : Nat) (hm : m < 9223372036854775808) : ∃ j : Nat, j ≤ m ∧ bits .and .i64 x (m : Int) = (j : Int) := by
  have h : (BitVec.ofInt 64 x &&& BitVec.ofInt 64 (m : Int)).toNat ≤ m := by
    rw [BitVec.toNat_and]
    have : (BitVec.ofInt 64 (m : Int)).toNat = m := by
      rw [BitVec.toNat_ofInt]; omega
    rw [this]
    exact Nat.and_le_right
  refine ⟨_, h, ?_⟩
  show IntKind.i64.wrap ((BitVec.ofInt 64 x &&& BitVec.ofInt 64 (m : Int)).toNat : Int) = _
  rw [IntKind.wrap_i64]
  omega
end Go.Proofs.Ytmgkaoenjnnlmaa
