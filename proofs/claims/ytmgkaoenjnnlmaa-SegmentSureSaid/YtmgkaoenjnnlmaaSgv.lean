/- A disk and a segment on it, as one thing whose blocks are named by nobody: the calls once more. -/
import Derived.Test.YtmgkaoenjnnlmaaSgl
import Derived.Test.YtmgkaoenjnnlmaaSgq
namespace Go.Proofs.Ytmgkaoenjnnlmaa
open Go.RowKit
open Go.NB (Rd Dk Kp Stp Off Dis val oneB dB I64)

/-- A disk that stands behind a world. -/
def Dd (w0 w : World) (p : Nat) (D : Dk) : Prop := ∃ based G, HasD w based p G D ∧ w0.heap.size ≤ based ∧ Below w0.heap.size w0 w
/-- A disk and a segment. -/
def Sd (w0 w : World) (q p : Nat) (D : Dk) (S : Sg) : Prop := ∃ base based F G, HasSg w base q p F S ∧ HasD w based p G D ∧ Dis F G ∧ w0.heap.size ≤ base ∧ w0.heap.size ≤ based ∧ Below w0.heap.size w0 w
/-- Bytes that lie outside of whatever stands behind w0 and in wb. -/
def OffW (w0 wb w : World) (a : Option Addr) (n c : Nat) (b : List UInt8) : Prop := NB.RdB w a n c b ∧ ∀ k o, a = some ⟨k, o, none⟩ → b ≠ [] → k < w0.heap.size ∨ wb.heap.size ≤ k
theorem offW_old {w0 wb : World} {a : Option Addr} {n c : Nat} {b : List UInt8} (h : NB.RdB w0 a n c b) (hb : Below w0.heap.size w0 wb) : OffW w0 wb wb a n c b :=
  ⟨h.below hb, fun k o e hn => .inl (h.lt k o e (by simpa using hn))⟩
theorem offW_new {w0 wb : World} {t : TypeId} {cs : Array Value} {b : List UInt8} {n g : Nat} {fr : Nat × Nat} (h : cs.toList = b.map NB.u8v) (hn : b.length = n) (hm : n ≤ maxLen) (hg : g = wb.heap.size) :
    OffW w0 wb (wb.alloc (.cells cs t fr)) (some ⟨g, 0, none⟩) n n b :=
  ⟨NB.rdB_lit b h hn hm hg, fun k o e _ => by cases e; omega⟩
theorem offW_own {w0 wb w : World} {t : TypeId} {b : List UInt8} {a : Option Addr} {c : Nat} (ho : NB.OwnB w wb.heap.size t (.slice a b.length c) b) : OffW w0 wb w a b.length c b := by
  obtain ⟨a1, c1, e1, hr, hl, _⟩ := NB.rd_of_own ho
  cases e1
  exact ⟨hr, fun k o e _ => .inr (hl k o e).1⟩
theorem offW_nil (w0 wb w : World) : OffW w0 wb w none 0 0 [] := ⟨NB.Rd.nil_mk, fun k o e => by cases e⟩
theorem OffW.off {w0 wb w : World} {a : Option Addr} {n c : Nat} {b : List UInt8} (h : OffW w0 wb w a n c b) {F : Nat → Prop} (hF : ∀ k, F k → w0.heap.size ≤ k ∧ k < wb.heap.size) : Off F w a n c b :=
  ⟨h.1, fun k o e hn hf => by have := hF k hf; have := h.2 k o e hn; omega⟩
section
variable {w0 w w' : World} {p q : Nat} {D D' : Dk} {S S' : Sg}
theorem Sd.dd (h : Sd w0 w q p D S) : Dd w0 w p D := by
  obtain ⟨base, based, F, G, h1, h2, h3, h4, h5, h6⟩ := h; exact ⟨based, G, h2, h5, h6⟩
theorem Sd.low (h : Sd w0 w q p D S) : Below w0.heap.size w0 w := by
  obtain ⟨base, based, F, G, h1, h2, h3, h4, h5, h6⟩ := h; exact h6
theorem Dd.low (h : Dd w0 w p D) : Below w0.heap.size w0 w := by
  obtain ⟨based, G, h2, h5, h6⟩ := h; exact h6
theorem Sd.below (h : Sd w0 w q p D S) (hb : Below w.heap.size w w') : Sd w0 w' q p D S := by
  obtain ⟨base, based, F, G, h1, h2, h3, h4, h5, h6⟩ := h
  exact ⟨base, based, F, G, h1.below hb, h2.below hb, h3, h4, h5, bel h6 hb h6.size⟩
theorem Dd.below (h : Dd w0 w p D) (hb : Below w.heap.size w w') : Dd w0 w' p D := by
  obtain ⟨based, G, h2, h5, h6⟩ := h
  exact ⟨based, G, h2.below hb, h5, bel h6 hb h6.size⟩
theorem Sd.alloc (h : Sd w0 w q p D S) (o : Obj) : Sd w0 (w.alloc o) q p D S := h.below ((Below.refl _ _).alloc (Nat.le_refl _) o)
theorem Dd.alloc (h : Dd w0 w p D) (o : Obj) : Dd w0 (w.alloc o) p D := h.below ((Below.refl _ _).alloc (Nat.le_refl _) o)
theorem Sd.l64 (h : Sd w0 w q p D S) : ∀ b ∈ D.l, b.length = 64 := by
  obtain ⟨base, based, F, G, h1, h2, _⟩ := h; exact h2.l64
end

/-- What a new disk's call leaves. -/
def NewDd (w0 : World) (n : Nat) (e : Ending) (w' : World) : Prop := ∃ p, e = .returned (.tuple #[.pointer (some ⟨p, 0, none⟩), .int .i64 0]) ∧ Dd w0 w' p (Dk.fresh n)
theorem qd_new (w0 w : World) (hb : Below w0.heap.size w0 w) (n : Nat) (h1 : 1 ≤ n) (h2 : n ≤ 65536) : Calls Try.prog 10 #[.int .i64 n] w (NewDd w0 n) :=
  (dnew_any w n h1 h2).mono fun e w' ⟨p, F, he, hd, hb'⟩ => ⟨p, he, _, F, hd, hb.size, bel hb hb' hb.size⟩
/-- What opening leaves. -/
def OpenSd (w0 : World) (p : Nat) (D : Dk) (frm n : Int) (e : Ending) (w' : World) : Prop :=
  (openE D frm n ≠ 0 ∧ e = .returned (.tuple #[.pointer none, .int .i64 (openE D frm n)]) ∧ Dd w0 w' p D) ∨
  (openE D frm n = 0 ∧ ∃ q, e = .returned (.tuple #[.pointer (some ⟨q, 0, none⟩), .int .i64 0]) ∧ Sd w0 w' q p D (openS D frm n))
theorem qs_open (w0 w : World) (p : Nat) (D : Dk) (frm n : Int) (h : Dd w0 w p D) (hwn : D.waits.length ≤ 1000000) (hi1 : I64 frm) (hi2 : I64 n) :
    Calls Try.prog 11 #[.pointer (some ⟨p, 0, none⟩), .int .i64 frm, .int .i64 n] w (OpenSd w0 p D frm n) := by
  have h0 := h
  obtain ⟨based, G, hD, h5, h6⟩ := h
  refine (sopen_any w based p G D frm n hD hwn hi1 hi2).mono ?_
  rintro e w' (⟨h1, h2, hb⟩ | ⟨h1, q, F, h2, hS, hb⟩)
  · exact .inl ⟨h1, h2, h0.below hb⟩
  · refine .inr ⟨h1, q, h2, _, based, F, G, hS, hD.below hb, fun k hf hg => ?_, h6.size, h5, bel h6 hb h6.size⟩
    have := (hS.foot k hf).1; have := (hD.foot k hg).2; omega
/-- What a call that answers an error leaves. -/
def ErrSd (w0 : World) (q p : Nat) (D : Dk) (S : Sg) (x : Int) (e : Ending) (w' : World) : Prop := e = .returned (.int .i64 x) ∧ Sd w0 w' q p D S
def NonSd (w0 : World) (q p : Nat) (D : Dk) (S : Sg) (e : Ending) (w' : World) : Prop := e = .returned (.tuple #[]) ∧ Sd w0 w' q p D S
def NonDd (w0 : World) (p : Nat) (D : Dk) (e : Ending) (w' : World) : Prop := e = .returned (.tuple #[]) ∧ Dd w0 w' p D
def AppSd (w0 : World) (q p : Nat) (r : Dk × Sg × Nat × Int) (e : Ending) (w' : World) : Prop := e = .returned (.tuple #[.int .i64 (r.2.2.1 : Int), .int .i64 r.2.2.2]) ∧ Sd w0 w' q p r.1 r.2.1
theorem did_sd {w0 w w' : World} {base q based p : Nat} {F G : Nat → Prop} {S' : Sg} {D' : Dk} (hF : ∀ k, F k → base ≤ k) (hG : ∀ k, G k → based ≤ k) (h4 : w0.heap.size ≤ base) (h5 : w0.heap.size ≤ based) (h6 : Below w0.heap.size w0 w)
    (h : DidS w base q based p F G S' D' w') : Sd w0 w' q p D' S' := by
  obtain ⟨F', G', a, b, c, d⟩ := h
  refine ⟨base, based, F', G', a, b, c, h4, h5, bel h6 (d.low (base := w0.heap.size) h6.size ?_) (Nat.le_refl _)⟩
  rintro k (hk | hk)
  · have := hF k hk; omega
  · have := hG k hk; omega
theorem qs_app (w0 wb w : World) (q p : Nat) (D : Dk) (S : Sg) (a : Option Addr) (n c : Nat) (b : List UInt8) (h : Sd w0 wb q p D S) (hb : Below wb.heap.size wb w) (ho : OffW w0 wb w a n c b) (hwn : D.waits.length ≤ 900000) (hn : n ≤ 1000000) :
    Calls Try.prog 12 #[.pointer (some ⟨q, 0, none⟩), .slice a n c] w (AppSd w0 q p (appM D S b)) := by
  obtain ⟨base, based, F, G, h1, h2, h3, h4, h5, h6⟩ := h
  have hof : Off (fun k => F k ∨ G k) w a n c b := ho.off fun k hk => hk.elim (fun hf => by have := h1.foot k hf; omega) (fun hf => by have := h2.foot k hf; omega)
  refine (sapp_any w base q based p F G S D a n c b (h1.below hb) (h2.below hb) h3 hof hwn hn).mono ?_
  rintro e w' ⟨rfl, hd⟩
  exact ⟨rfl, did_sd (fun k hk => (h1.foot k hk).1) (fun k hk => (h2.foot k hk).1) h4 h5 (bel h6 hb h6.size) hd⟩
theorem qs_sync (w0 w : World) (q p : Nat) (D : Dk) (S : Sg) (h : Sd w0 w q p D S) (hwn : D.waits.length ≤ 1000000) :
    Calls Try.prog 13 #[.pointer (some ⟨q, 0, none⟩)] w (ErrSd w0 q p (synM D S).1 (synM D S).2.1 (synM D S).2.2) := by
  obtain ⟨base, based, F, G, h1, h2, h3, h4, h5, h6⟩ := h
  refine (ssync_any w base q based p F G S D h1 h2 h3 hwn).mono ?_
  rintro e w' ⟨rfl, hd⟩
  exact ⟨rfl, did_sd (fun k hk => (h1.foot k hk).1) (fun k hk => (h2.foot k hk).1) h4 h5 h6 hd⟩
theorem qs_trim (w0 w : World) (q p : Nat) (D : Dk) (S : Sg) (k : Int) (h : Sd w0 w q p D S) :
    Calls Try.prog 21 #[.pointer (some ⟨q, 0, none⟩), .int .i64 k] w (ErrSd w0 q p D (trmM S k) ((trmM S k).gone : Int)) := by
  obtain ⟨base, based, F, G, h1, h2, h3, h4, h5, h6⟩ := h
  refine (strim_any w base q p F S k h1).mono ?_
  rintro e w' ⟨rfl, hd, hs⟩
  exact ⟨rfl, base, based, F, G, hd, h2.keep hs.kp h3.symm, h3, h4, h5, bel h6 (hs.low (base := w0.heap.size) h6.size (fun k hk => by have := (h1.foot k hk).1; omega)) (Nat.le_refl _)⟩
theorem qs_len (w0 w : World) (q p : Nat) (D : Dk) (S : Sg) (h : Sd w0 w q p D S) : Calls Try.prog 15 #[.pointer (some ⟨q, 0, none⟩)] w fun e w' => e = .returned (.int .i64 (S.l.length : Int)) ∧ w' = w := by
  obtain ⟨base, based, F, G, h1, _⟩ := h
  exact slen_any w base q p F S h1
theorem qs_sure (w0 w : World) (q p : Nat) (D : Dk) (S : Sg) (h : Sd w0 w q p D S) : Calls Try.prog 16 #[.pointer (some ⟨q, 0, none⟩)] w fun e w' => e = .returned (.int .i64 (S.sure : Int)) ∧ w' = w := by
  obtain ⟨base, based, F, G, h1, _⟩ := h
  exact ssure_any w base q p F S h1
theorem qs_free (w0 w : World) (q p : Nat) (D : Dk) (S : Sg) (h : Sd w0 w q p D S) : Calls Try.prog 18 #[.pointer (some ⟨q, 0, none⟩)] w fun e w' => e = .returned (.int .i64 ((S.n : Int) - (S.used : Int))) ∧ Sd w0 w' q p D S ∧ Below w.heap.size w w' := by
  have h0 := h
  obtain ⟨base, based, F, G, h1, _⟩ := h
  exact (sfree_any w base q p F S h1).mono fun e w' ⟨he, hb⟩ => ⟨he, h0.below hb, hb⟩
/-- What reading leaves. -/
def ReadSd (w0 wb : World) (q p : Nat) (D : Dk) (S : Sg) (r : List UInt8 × Int) (e : Ending) (w' : World) : Prop :=
  ∃ a c, e = .returned (.tuple #[.slice a r.1.length c, .int .i64 r.2]) ∧ NB.RdB w' a r.1.length c r.1 ∧ (∀ k o, a = some ⟨k, o, none⟩ → wb.heap.size ≤ k) ∧ Sd w0 w' q p D S
theorem qs_read (w0 w : World) (q p : Nat) (D : Dk) (S : Sg) (k : Int) (h : Sd w0 w q p D S) (hb : ∀ b ∈ S.l, b.length ≤ 100000) :
    Calls Try.prog 17 #[.pointer (some ⟨q, 0, none⟩), .int .i64 k] w (ReadSd w0 w q p D S (redM S k)) := by
  have h0 := h
  obtain ⟨base, based, F, G, h1, _⟩ := h
  refine (srd_any w base q p F S k h1 hb).mono ?_
  rintro e w' ⟨a, c, rfl, ho, hb'⟩
  obtain ⟨a1, c1, e1, hr, hl, _⟩ := NB.rd_of_own ho
  cases e1
  exact ⟨a, c, rfl, hr, fun k o e => (hl k o e).1, h0.below hb'⟩
/-- The disk's own calls; the segment stays as it was. -/
theorem qd_crash (w0 wb w : World) (p : Nat) (D : Dk) (a : Option Addr) (n c : Nat) (b : List UInt8) (h : Dd w0 wb p D) (hb : Below wb.heap.size wb w) (ho : OffW w0 wb w a n c b) (hwn : D.waits.length ≤ 1000000) :
    Calls Try.prog 14 #[.pointer (some ⟨p, 0, none⟩), .slice a n c] w (NonDd w0 p (D.crash b)) := by
  obtain ⟨based, G, h2, h5, h6⟩ := h
  have hof : Off G w a n c b := ho.off fun k hf => by have := h2.foot k hf; omega
  refine (dcrash_any w based p G D a n c b (h2.below hb) hof hwn).mono ?_
  rintro e w' ⟨rfl, G', hd, hs⟩
  exact ⟨rfl, based, G', hd, h5, bel (bel h6 hb h6.size) (hs.low (base := w0.heap.size) (Nat.le_trans h6.size hb.size) (fun k hk => by have := (h2.foot k hk).1; omega)) (Nat.le_refl _)⟩
theorem step_sd {w0 wb w w' : World} {base q based p : Nat} {F G G' : Nat → Prop} {S : Sg} {D D' : Dk} (h1 : HasSg wb base q p F S) (h2 : HasD wb based p G D) (h3 : Dis F G) (h4 : w0.heap.size ≤ base) (h5 : w0.heap.size ≤ based) (h6 : Below w0.heap.size w0 wb) (hb : Below wb.heap.size wb w) (hd : HasD w' based p G' D') (hs : Stp G G' w w') : Sd w0 w' q p D' S :=
  ⟨base, based, F, G', (h1.below hb).keep hs.kp h3, hd, h3.step (fun k hk => Nat.lt_of_lt_of_le (h1.foot k hk).2 hb.size) hs, h4, h5,
    bel (bel h6 hb h6.size) (hs.low (base := w0.heap.size) (Nat.le_trans h6.size hb.size) (fun k hk => by have := (h2.foot k hk).1; omega)) (Nat.le_refl _)⟩
theorem qs_write (w0 wb w : World) (q p : Nat) (D : Dk) (S : Sg) (i : Int) (a : Option Addr) (n c : Nat) (b : List UInt8) (h : Sd w0 wb q p D S) (hb : Below wb.heap.size wb w) (ho : OffW w0 wb w a n c b) (hwn : D.waits.length ≤ 1000000) :
    Calls Try.prog 30 #[.pointer (some ⟨p, 0, none⟩), .int .i64 i, .slice a n c] w (ErrSd w0 q p (D.write i b).1 S (D.write i b).2) := by
  obtain ⟨base, based, F, G, h1, h2, h3, h4, h5, h6⟩ := h
  have hof : Off G w a n c b := ho.off fun k hf => by have := h2.foot k hf; omega
  refine (dwrite_any w based p G D i a n c b (h2.below hb) hof hwn).mono ?_
  rintro e w' ⟨rfl, G', hd, hs⟩
  exact ⟨rfl, step_sd h1 h2 h3 h4 h5 h6 hb hd hs⟩
theorem qs_stop (w0 w : World) (q p : Nat) (D : Dk) (S : Sg) (x : Int) (hx : x ≤ 9223372036854775807) (h : Sd w0 w q p D S) :
    Calls Try.prog 19 #[.pointer (some ⟨p, 0, none⟩), .int .i64 x] w (NonSd w0 q p (D.stop x) S) := by
  obtain ⟨base, based, F, G, h1, h2, h3, h4, h5, h6⟩ := h
  refine (dstop_any w based p G D x hx h2).mono ?_
  rintro e w' ⟨rfl, G', hd, hs⟩
  exact ⟨rfl, step_sd h1 h2 h3 h4 h5 h6 (Below.refl _ _) hd hs⟩
end Go.Proofs.Ytmgkaoenjnnlmaa
