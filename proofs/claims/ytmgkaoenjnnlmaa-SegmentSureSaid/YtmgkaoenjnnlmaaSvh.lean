/- A disk and a segment on it, beside blocks that are somebody else's: the calls keep those. -/
import Derived.Test.YtmgkaoenjnnlmaaSgv
namespace Go.Proofs.Ytmgkaoenjnnlmaa
open Go.RowKit
open Go.NB (Rd Dk Kp Stp Off Dis val oneB dB I64)

/-- As Sd, and all blocks of 'H' are there, and not its own. -/
def SdH (H : Nat → Prop) (w0 w : World) (q p : Nat) (D : Dk) (S : Sg) : Prop := ∃ base based F G, HasSg w base q p F S ∧ HasD w based p G D ∧ Dis F G ∧ w0.heap.size ≤ base ∧ w0.heap.size ≤ based ∧ Below w0.heap.size w0 w ∧ ∀ k, H k → k < w.heap.size ∧ ¬ F k ∧ ¬ G k
def DdH (H : Nat → Prop) (w0 w : World) (p : Nat) (D : Dk) : Prop := ∃ based G, HasD w based p G D ∧ w0.heap.size ≤ based ∧ Below w0.heap.size w0 w ∧ ∀ k, H k → k < w.heap.size ∧ ¬ G k
section
variable {w0 w w' : World} {p q : Nat} {D D' : Dk} {S S' : Sg} {H H' : Nat → Prop}
theorem Sd.sdh (h : Sd w0 w q p D S) : SdH (fun _ => False) w0 w q p D S := by
  obtain ⟨base, based, F, G, h1, h2, h3, h4, h5, h6⟩ := h
  exact ⟨base, based, F, G, h1, h2, h3, h4, h5, h6, fun k hk => hk.elim⟩
theorem SdH.sd (h : SdH H w0 w q p D S) : Sd w0 w q p D S := by
  obtain ⟨base, based, F, G, h1, h2, h3, h4, h5, h6, _⟩ := h
  exact ⟨base, based, F, G, h1, h2, h3, h4, h5, h6⟩
theorem SdH.ddh (h : SdH H w0 w q p D S) : DdH H w0 w p D := by
  obtain ⟨base, based, F, G, h1, h2, h3, h4, h5, h6, h7⟩ := h
  exact ⟨based, G, h2, h5, h6, fun k hk => ⟨(h7 k hk).1, (h7 k hk).2.2⟩⟩
theorem SdH.low (h : SdH H w0 w q p D S) : Below w0.heap.size w0 w := h.sd.low
theorem DdH.low (h : DdH H w0 w p D) : Below w0.heap.size w0 w := by
  obtain ⟨based, G, h2, h5, h6, h7⟩ := h; exact h6
theorem SdH.below (h : SdH H w0 w q p D S) (hb : Below w.heap.size w w') : SdH H w0 w' q p D S := by
  obtain ⟨base, based, F, G, h1, h2, h3, h4, h5, h6, h7⟩ := h
  exact ⟨base, based, F, G, h1.below hb, h2.below hb, h3, h4, h5, bel h6 hb h6.size, fun k hk => ⟨Nat.lt_of_lt_of_le (h7 k hk).1 hb.size, (h7 k hk).2⟩⟩
theorem DdH.below (h : DdH H w0 w p D) (hb : Below w.heap.size w w') : DdH H w0 w' p D := by
  obtain ⟨based, G, h2, h5, h6, h7⟩ := h
  exact ⟨based, G, h2.below hb, h5, bel h6 hb h6.size, fun k hk => ⟨Nat.lt_of_lt_of_le (h7 k hk).1 hb.size, (h7 k hk).2⟩⟩
/-- Somebody else's blocks turn: of what there was only 'H', and 'H'' lies in 'H', or is new. -/
theorem SdH.turn (h : SdH H w0 w q p D S) (hk : Kp H w w') (hs : ∀ k, H' k → k < w'.heap.size ∧ (H k ∨ w.heap.size ≤ k)) (hlow : ∀ k, H k → w0.heap.size ≤ k) : SdH H' w0 w' q p D S := by
  obtain ⟨base, based, F, G, h1, h2, h3, h4, h5, h6, h7⟩ := h
  refine ⟨base, based, F, G, h1.keep hk (fun k hf hh => (h7 k hh).2.1 hf), h2.keep hk (fun k hf hh => (h7 k hh).2.2 hf), h3, h4, h5, bel h6 (hk.belowB (B := w0.heap.size) h6.size hlow) (Nat.le_refl _), fun k hk' => ⟨(hs k hk').1, ?_⟩⟩
  rcases (hs k hk').2 with h8 | h8
  · exact (h7 k h8).2
  · exact ⟨fun hf => by have := (h1.foot k hf).2; omega, fun hf => by have := (h2.foot k hf).2; omega⟩
theorem SdH.imp (h : SdH H w0 w q p D S) (hs : ∀ k, H' k → H k) : SdH H' w0 w q p D S := by
  obtain ⟨base, based, F, G, h1, h2, h3, h4, h5, h6, h7⟩ := h
  exact ⟨base, based, F, G, h1, h2, h3, h4, h5, h6, fun k hk => h7 k (hs k hk)⟩
end
theorem did_sdh {H : Nat → Prop} {w0 w w' : World} {base q based p : Nat} {F G : Nat → Prop} {S' : Sg} {D' : Dk} (hF : ∀ k, F k → base ≤ k) (hG : ∀ k, G k → based ≤ k) (h4 : w0.heap.size ≤ base) (h5 : w0.heap.size ≤ based) (h6 : Below w0.heap.size w0 w)
    (h7 : ∀ k, H k → k < w.heap.size ∧ ¬ F k ∧ ¬ G k) (h : DidS w base q based p F G S' D' w') : SdH H w0 w' q p D' S' ∧ Kp (fun k => ¬ H k) w w' := by
  obtain ⟨F', G', a, b, c, d⟩ := h
  refine ⟨⟨base, based, F', G', a, b, c, h4, h5, bel h6 (d.low (base := w0.heap.size) h6.size ?_) (Nat.le_refl _), fun k hk => ?_⟩, d.kp.imp fun k hk hh => ?_⟩
  · rintro k (hk | hk)
    · have := hF k hk; omega
    · have := hG k hk; omega
  · have h8 := h7 k hk
    have hsz := d.size
    refine ⟨by omega, fun hf => ?_, fun hf => ?_⟩
    · rcases d.sub k (.inl hf) with (h9 | h9) | h9
      · exact h8.2.1 h9
      · exact h8.2.2 h9
      · omega
    · rcases d.sub k (.inr hf) with (h9 | h9) | h9
      · exact h8.2.1 h9
      · exact h8.2.2 h9
      · omega
  · have h8 := h7 k hh
    exact hk.elim h8.2.1 h8.2.2
def AppSdH (H : Nat → Prop) (w0 w : World) (q p : Nat) (r : Dk × Sg × Nat × Int) (e : Ending) (w' : World) : Prop := e = .returned (.tuple #[.int .i64 (r.2.2.1 : Int), .int .i64 r.2.2.2]) ∧ SdH H w0 w' q p r.1 r.2.1 ∧ Kp (fun k => ¬ H k) w w'
def ErrSdH (H : Nat → Prop) (w0 w : World) (q p : Nat) (D : Dk) (S : Sg) (x : Int) (e : Ending) (w' : World) : Prop := e = .returned (.int .i64 x) ∧ SdH H w0 w' q p D S ∧ Kp (fun k => ¬ H k) w w'
def NonSdH (H : Nat → Prop) (w0 w : World) (q p : Nat) (D : Dk) (S : Sg) (e : Ending) (w' : World) : Prop := e = .returned (.tuple #[]) ∧ SdH H w0 w' q p D S ∧ Kp (fun k => ¬ H k) w w'
theorem qh_app (H : Nat → Prop) (w0 wb w : World) (q p : Nat) (D : Dk) (S : Sg) (a : Option Addr) (n c : Nat) (b : List UInt8) (h : SdH H w0 wb q p D S) (hb : Below wb.heap.size wb w) (ho : OffW w0 wb w a n c b) (hwn : D.waits.length ≤ 900000) (hn : n ≤ 1000000) :
    Calls Try.prog 12 #[.pointer (some ⟨q, 0, none⟩), .slice a n c] w (AppSdH H w0 w q p (appM D S b)) := by
  obtain ⟨base, based, F, G, h1, h2, h3, h4, h5, h6, h7⟩ := h
  have hof : Off (fun k => F k ∨ G k) w a n c b := ho.off fun k hk => hk.elim (fun hf => by have := h1.foot k hf; omega) (fun hf => by have := h2.foot k hf; omega)
  refine (sapp_any w base q based p F G S D a n c b (h1.below hb) (h2.below hb) h3 hof hwn hn).mono ?_
  rintro e w' ⟨rfl, hd⟩
  exact ⟨rfl, did_sdh (fun k hk => (h1.foot k hk).1) (fun k hk => (h2.foot k hk).1) h4 h5 (bel h6 hb h6.size) (fun k hk => ⟨Nat.lt_of_lt_of_le (h7 k hk).1 hb.size, (h7 k hk).2⟩) hd⟩
theorem qh_sync (H : Nat → Prop) (w0 w : World) (q p : Nat) (D : Dk) (S : Sg) (h : SdH H w0 w q p D S) (hwn : D.waits.length ≤ 1000000) :
    Calls Try.prog 13 #[.pointer (some ⟨q, 0, none⟩)] w (ErrSdH H w0 w q p (synM D S).1 (synM D S).2.1 (synM D S).2.2) := by
  obtain ⟨base, based, F, G, h1, h2, h3, h4, h5, h6, h7⟩ := h
  refine (ssync_any w base q based p F G S D h1 h2 h3 hwn).mono ?_
  rintro e w' ⟨rfl, hd⟩
  exact ⟨rfl, did_sdh (fun k hk => (h1.foot k hk).1) (fun k hk => (h2.foot k hk).1) h4 h5 h6 h7 hd⟩
theorem qh_trim (H : Nat → Prop) (w0 w : World) (q p : Nat) (D : Dk) (S : Sg) (k : Int) (h : SdH H w0 w q p D S) :
    Calls Try.prog 21 #[.pointer (some ⟨q, 0, none⟩), .int .i64 k] w (ErrSdH H w0 w q p D (trmM S k) ((trmM S k).gone : Int)) := by
  obtain ⟨base, based, F, G, h1, h2, h3, h4, h5, h6, h7⟩ := h
  refine (strim_any w base q p F S k h1).mono ?_
  rintro e w' ⟨rfl, hd, hs⟩
  exact ⟨rfl, ⟨base, based, F, G, hd, h2.keep hs.kp h3.symm, h3, h4, h5, bel h6 (hs.low (base := w0.heap.size) h6.size (fun k hk => by have := (h1.foot k hk).1; omega)) (Nat.le_refl _), fun k hk => ⟨Nat.lt_of_lt_of_le (h7 k hk).1 hs.size, (h7 k hk).2⟩⟩, hs.kp.imp fun k hk hh => (h7 k hh).2.1 hk⟩
def NonDdH (H : Nat → Prop) (w0 w : World) (p : Nat) (D : Dk) (e : Ending) (w' : World) : Prop := e = .returned (.tuple #[]) ∧ DdH H w0 w' p D ∧ Kp (fun k => ¬ H k) w w'
theorem qg_crash (H : Nat → Prop) (w0 wb w : World) (p : Nat) (D : Dk) (a : Option Addr) (n c : Nat) (b : List UInt8) (h : DdH H w0 wb p D) (hb : Below wb.heap.size wb w) (ho : OffW w0 wb w a n c b) (hwn : D.waits.length ≤ 1000000) :
    Calls Try.prog 14 #[.pointer (some ⟨p, 0, none⟩), .slice a n c] w (NonDdH H w0 w p (D.crash b)) := by
  obtain ⟨based, G, h2, h5, h6, h7⟩ := h
  have hof : Off G w a n c b := ho.off fun k hf => by have := h2.foot k hf; omega
  refine (dcrash_any w based p G D a n c b (h2.below hb) hof hwn).mono ?_
  rintro e w' ⟨rfl, G', hd, hs⟩
  refine ⟨rfl, ⟨based, G', hd, h5, bel (bel h6 hb h6.size) (hs.low (base := w0.heap.size) (Nat.le_trans h6.size hb.size) (fun k hk => by have := (h2.foot k hk).1; omega)) (Nat.le_refl _), fun k hk => ?_⟩, hs.kp.imp fun k hk hh => (h7 k hh).2 hk⟩
  have h8 := h7 k hk
  have h9 := hb.size
  have h10 := hs.size
  refine ⟨by omega, fun hf => ?_⟩
  rcases hs.sub k hf with h11 | h11
  · exact h8.2 h11
  · omega
def OpenSdH (H : Nat → Prop) (w0 w : World) (p : Nat) (D : Dk) (frm n : Int) (e : Ending) (w' : World) : Prop :=
  (openE D frm n ≠ 0 ∧ e = .returned (.tuple #[.pointer none, .int .i64 (openE D frm n)]) ∧ DdH H w0 w' p D ∧ Below w.heap.size w w') ∨
  (openE D frm n = 0 ∧ ∃ q, e = .returned (.tuple #[.pointer (some ⟨q, 0, none⟩), .int .i64 0]) ∧ SdH H w0 w' q p D (openS D frm n) ∧ Below w.heap.size w w')
theorem qg_open (H : Nat → Prop) (w0 w : World) (p : Nat) (D : Dk) (frm n : Int) (h : DdH H w0 w p D) (hwn : D.waits.length ≤ 1000000) (hi1 : I64 frm) (hi2 : I64 n) :
    Calls Try.prog 11 #[.pointer (some ⟨p, 0, none⟩), .int .i64 frm, .int .i64 n] w (OpenSdH H w0 w p D frm n) := by
  have h0 := h
  obtain ⟨based, G, hD, h5, h6, h7⟩ := h
  refine (sopen_any w based p G D frm n hD hwn hi1 hi2).mono ?_
  rintro e w' (⟨h1, h2, hb⟩ | ⟨h1, q, F, h2, hS, hb⟩)
  · exact .inl ⟨h1, h2, h0.below hb, hb⟩
  · refine .inr ⟨h1, q, h2, ⟨_, based, F, G, hS, hD.below hb, fun k hf hg => ?_, h6.size, h5, bel h6 hb h6.size, fun k hk => ⟨Nat.lt_of_lt_of_le (h7 k hk).1 hb.size, fun hf => ?_, (h7 k hk).2⟩⟩, hb⟩
    · have := (hS.foot k hf).1; have := (hD.foot k hg).2; omega
    · have := (hS.foot k hf).1; have := (h7 k hk).1; omega
theorem step_sdh {H : Nat → Prop} {w0 wb w w' : World} {base q based p : Nat} {F G G' : Nat → Prop} {S : Sg} {D D' : Dk} (h1 : HasSg wb base q p F S) (h2 : HasD wb based p G D) (h3 : Dis F G) (h4 : w0.heap.size ≤ base) (h5 : w0.heap.size ≤ based) (h6 : Below w0.heap.size w0 wb) (h7 : ∀ k, H k → k < wb.heap.size ∧ ¬ F k ∧ ¬ G k) (hb : Below wb.heap.size wb w) (hd : HasD w' based p G' D') (hs : Stp G G' w w') : SdH H w0 w' q p D' S ∧ Kp (fun k => ¬ H k) w w' := by
  refine ⟨⟨base, based, F, G', (h1.below hb).keep hs.kp h3, hd, h3.step (fun k hk => Nat.lt_of_lt_of_le (h1.foot k hk).2 hb.size) hs, h4, h5,
    bel (bel h6 hb h6.size) (hs.low (base := w0.heap.size) (Nat.le_trans h6.size hb.size) (fun k hk => by have := (h2.foot k hk).1; omega)) (Nat.le_refl _), fun k hk => ?_⟩, hs.kp.imp fun k hk hh => (h7 k hh).2.2 hk⟩
  have h8 := h7 k hk
  have h9 := hb.size
  have h10 := hs.size
  refine ⟨by omega, h8.2.1, fun hf => ?_⟩
  rcases hs.sub k hf with h11 | h11
  · exact h8.2.2 h11
  · omega
theorem qh_write (H : Nat → Prop) (w0 wb w : World) (q p : Nat) (D : Dk) (S : Sg) (i : Int) (a : Option Addr) (n c : Nat) (b : List UInt8) (h : SdH H w0 wb q p D S) (hb : Below wb.heap.size wb w) (ho : OffW w0 wb w a n c b) (hwn : D.waits.length ≤ 1000000) :
    Calls Try.prog 30 #[.pointer (some ⟨p, 0, none⟩), .int .i64 i, .slice a n c] w (ErrSdH H w0 w q p (D.write i b).1 S (D.write i b).2) := by
  obtain ⟨base, based, F, G, h1, h2, h3, h4, h5, h6, h7⟩ := h
  have hof : Off G w a n c b := ho.off fun k hf => by have := h2.foot k hf; omega
  refine (dwrite_any w based p G D i a n c b (h2.below hb) hof hwn).mono ?_
  rintro e w' ⟨rfl, G', hd, hs⟩
  exact ⟨rfl, step_sdh h1 h2 h3 h4 h5 h6 h7 hb hd hs⟩
theorem qh_stop (H : Nat → Prop) (w0 w : World) (q p : Nat) (D : Dk) (S : Sg) (x : Int) (hx : x ≤ 9223372036854775807) (h : SdH H w0 w q p D S) :
    Calls Try.prog 19 #[.pointer (some ⟨p, 0, none⟩), .int .i64 x] w (NonSdH H w0 w q p (D.stop x) S) := by
  obtain ⟨base, based, F, G, h1, h2, h3, h4, h5, h6, h7⟩ := h
  refine (dstop_any w based p G D x hx h2).mono ?_
  rintro e w' ⟨rfl, G', hd, hs⟩
  exact ⟨rfl, step_sdh h1 h2 h3 h4 h5 h6 h7 (Below.refl _ _) hd hs⟩
/-- What reading leaves. -/
def ReadSdH (H : Nat → Prop) (w0 wb : World) (q p : Nat) (D : Dk) (S : Sg) (r : List UInt8 × Int) (e : Ending) (w' : World) : Prop :=
  ∃ a c, e = .returned (.tuple #[.slice a r.1.length c, .int .i64 r.2]) ∧ NB.RdB w' a r.1.length c r.1 ∧ (∀ k o, a = some ⟨k, o, none⟩ → wb.heap.size ≤ k) ∧ SdH H w0 w' q p D S ∧ Below wb.heap.size wb w'
theorem qh_read (H : Nat → Prop) (w0 w : World) (q p : Nat) (D : Dk) (S : Sg) (k : Int) (h : SdH H w0 w q p D S) (hb : ∀ b ∈ S.l, b.length ≤ 100000) :
    Calls Try.prog 17 #[.pointer (some ⟨q, 0, none⟩), .int .i64 k] w (ReadSdH H w0 w q p D S (redM S k)) := by
  have h0 := h
  obtain ⟨base, based, F, G, h1, _⟩ := h
  refine (srd_any w base q p F S k h1 hb).mono ?_
  rintro e w' ⟨a, c, rfl, ho, hb'⟩
  obtain ⟨a1, c1, e1, hr, hl, _⟩ := NB.rd_of_own ho
  cases e1
  exact ⟨a, c, rfl, hr, fun k o e => (hl k o e).1, h0.below hb', hb'⟩
end Go.Proofs.Ytmgkaoenjnnlmaa
