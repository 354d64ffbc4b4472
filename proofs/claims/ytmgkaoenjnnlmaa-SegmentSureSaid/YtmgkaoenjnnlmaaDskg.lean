/- The disk's calls once more: what it holds as one set of blocks. -/
import Derived.Test.YtmgkaoenjnnlmaaDskf
namespace Go.Proofs.Ytmgkaoenjnnlmaa
open Go.RowKit
open Go.NB (Rd Dk Kp footD Stp Off Dis)

def HasD (w : World) (base p : Nat) (F : Nat → Prop) (D : Dk) : Prop := ∃ bl vW, IsD w base p bl vW D ∧ F = footD p bl vW

section
variable {w w' : World} {base p : Nat} {F F' : Nat → Prop} {D : Dk}
theorem HasD.foot (h : HasD w base p F D) (k : Nat) (hk : F k) : base ≤ k ∧ k < w.heap.size := by
  obtain ⟨bl, vW, h, rfl⟩ := h
  exact h.foot_lt k hk
theorem HasD.keep {G : Nat → Prop} (h : HasD w base p F D) (hk : Kp G w w') (hG : Dis F G) : HasD w' base p F D := by
  obtain ⟨bl, vW, h, rfl⟩ := h
  exact ⟨bl, vW, h.keep hk hG, rfl⟩
theorem HasD.below (h : HasD w base p F D) (hb : Below w.heap.size w w') : HasD w' base p F D := h.keep (G := fun _ => False) (Kp.of_below hb) (fun _ _ h => h)
theorem HasD.alloc (h : HasD w base p F D) (o : Obj) : HasD (w.alloc o) base p F D := h.below ((Below.refl _ _).alloc (Nat.le_refl _) o)
theorem HasD.base_le (h : HasD w base p F D) : base ≤ w.heap.size := by
  obtain ⟨bl, vW, h, rfl⟩ := h
  have := h.bp; have := h.lt.1; omega
theorem HasD.low (h : HasD w base p F D) (hs : Stp F F' w w') : Below base w w' := hs.low h.base_le (fun k hk => (h.foot k hk).1)
theorem HasD.l64 (h : HasD w base p F D) : ∀ b ∈ D.l, b.length = 64 := by
  obtain ⟨bl, vW, h, rfl⟩ := h
  exact h.l64
theorem HasD.w64 (h : HasD w base p F D) : ∀ x ∈ D.waits, x.2.length = 64 ∧ x.1 < D.l.length := by
  obtain ⟨bl, vW, h, rfl⟩ := h
  exact h.w64
end

theorem stp_d {w w' : World} {p bl : Nat} {vW vW' : Value} (hk : Kp (footD p bl vW) w w') (hv : ∀ k, vW'.ownBlock = some k → vW.ownBlock = some k ∨ w.heap.size ≤ k) : Stp (footD p bl vW) (footD p bl vW') w w' :=
  ⟨hk, fun k h => by
    rcases h with h | h | h
    · exact .inl (.inl h)
    · exact .inl (.inr (.inl h))
    · rcases hv k h with h | h
      · exact .inl (.inr (.inr h))
      · exact .inr h⟩

/-- What a call that answers an error leaves. -/
def DidD (w : World) (base p : Nat) (F : Nat → Prop) (r : Dk × Int) (e : Ending) (w' : World) : Prop :=
  e = .returned (.int .i64 r.2) ∧ ∃ F', HasD w' base p F' r.1 ∧ Stp F F' w w'
/-- One that answers nothing. -/
def DoneD (w : World) (base p : Nat) (F : Nat → Prop) (D : Dk) (e : Ending) (w' : World) : Prop :=
  e = .returned (.tuple #[]) ∧ ∃ F', HasD w' base p F' D ∧ Stp F F' w w'

theorem dwrite_any (w : World) (base p : Nat) (F : Nat → Prop) (D : Dk) (i : Int) (a : Option Addr) (n c : Nat) (b : List UInt8) (h : HasD w base p F D) (hb : Off F w a n c b) (hwn : D.waits.length ≤ 1000000) :
    Calls Try.prog 30 #[.pointer (some ⟨p, 0, none⟩), .int .i64 i, .slice a n c] w (DidD w base p F (D.write i b)) := by
  have hbase := h.base_le
  obtain ⟨bl, vW, h, rfl⟩ := h
  exact (write_any w base p bl vW D i a n c b h hb.rd (fun k o e hn => hb.nf k o e hn) hwn hbase).mono fun e w' ⟨he, vW', hd, hk, hv⟩ => ⟨he, _, ⟨bl, vW', hd, rfl⟩, stp_d hk hv⟩

theorem dsync_any (w : World) (base p : Nat) (F : Nat → Prop) (D : Dk) (h : HasD w base p F D) (hwn : D.waits.length ≤ 1000000) :
    Calls Try.prog 42 #[.pointer (some ⟨p, 0, none⟩)] w (DidD w base p F D.sync) := by
  obtain ⟨bl, vW, h, rfl⟩ := h
  exact (sync_any w base p bl vW D h hwn).mono fun e w' ⟨he, vW', hd, hk, hv⟩ => ⟨he, _, ⟨bl, vW', hd, rfl⟩, stp_d hk fun k e => .inl (hv k e)⟩

theorem dcrash_any (w : World) (base p : Nat) (F : Nat → Prop) (D : Dk) (a : Option Addr) (n c : Nat) (pick : List UInt8) (h : HasD w base p F D) (hb : Off F w a n c pick) (hwn : D.waits.length ≤ 1000000) :
    Calls Try.prog 14 #[.pointer (some ⟨p, 0, none⟩), .slice a n c] w (DoneD w base p F (D.crash pick)) := by
  obtain ⟨bl, vW, h, rfl⟩ := h
  exact (crash_any w base p bl vW D a n c pick h hb.rd (fun k o e hn => hb.nf k o e hn) hwn).mono fun e w' ⟨he, vW', hd, hk, hv⟩ => ⟨he, _, ⟨bl, vW', hd, rfl⟩, stp_d hk fun k e => .inl (hv k e)⟩

theorem dstop_any (w : World) (base p : Nat) (F : Nat → Prop) (D : Dk) (x : Int) (hx : x ≤ 9223372036854775807) (h : HasD w base p F D) :
    Calls Try.prog 19 #[.pointer (some ⟨p, 0, none⟩), .int .i64 x] w (DoneD w base p F (D.stop x)) := by
  obtain ⟨bl, vW, h, rfl⟩ := h
  exact (stop_any w base p bl vW D x hx h).mono fun e w' ⟨he, hd, hk⟩ => ⟨he, _, ⟨bl, vW, hd, rfl⟩, stp_d hk fun k e => .inl e⟩

theorem dread_any (w : World) (base p : Nat) (F : Nat → Prop) (D : Dk) (i : Int) (h : HasD w base p F D) (hwn : D.waits.length ≤ 1000000) :
    Calls Try.prog 59 #[.pointer (some ⟨p, 0, none⟩), .int .i64 i] w (ReadD w (D.read i)) := by
  obtain ⟨bl, vW, h, rfl⟩ := h
  exact read_any w base p bl vW D i h hwn
theorem dwaits_any (w : World) (base p : Nat) (F : Nat → Prop) (D : Dk) (h : HasD w base p F D) :
    Calls Try.prog 58 #[.pointer (some ⟨p, 0, none⟩)] w fun e w' => e = .returned (.int .i64 (D.waits.length : Int)) ∧ w' = w := by
  obtain ⟨bl, vW, h, rfl⟩ := h
  exact waits_any w base p bl vW D h
theorem dlen_any (w : World) (base p : Nat) (F : Nat → Prop) (D : Dk) (h : HasD w base p F D) :
    Calls Try.prog 35 #[.pointer (some ⟨p, 0, none⟩)] w fun e w' => e = .returned (.int .i64 (D.l.length : Int)) ∧ w' = w := by
  obtain ⟨bl, vW, h, rfl⟩ := h
  exact len_any w base p bl vW D h
theorem ddown_any (w : World) (base p : Nat) (F : Nat → Prop) (D : Dk) (h : HasD w base p F D) :
    Calls Try.prog 57 #[.pointer (some ⟨p, 0, none⟩)] w fun e w' => e = .returned (.bool D.down) ∧ w' = w := by
  obtain ⟨bl, vW, h, rfl⟩ := h
  exact down_any w base p bl vW D h

/-- A new one. -/
def MadeD (w : World) (n : Nat) (e : Ending) (w' : World) : Prop := ∃ p F, e = .returned (.tuple #[.pointer (some ⟨p, 0, none⟩), .int .i64 0]) ∧ HasD w' w.heap.size p F (Dk.fresh n) ∧ Below w.heap.size w w'
theorem dnew_any (w : World) (n : Nat) (h1 : 1 ≤ n) (h2 : n ≤ 65536) : Calls Try.prog 10 #[.int .i64 n] w (MadeD w n) :=
  (new_any w n h1 h2).mono fun e w' ⟨p, bl, he, hd, hb⟩ => ⟨p, _, he, ⟨bl, _, hd, rfl⟩, hb⟩
theorem off_under {w0 w : World} {base p : Nat} {F : Nat → Prop} {D : Dk} {a : Option Addr} {n c : Nat} {bs : List UInt8} (r0 : NB.RdB w0 a n c bs) (hb : Below w0.heap.size w0 w) (h : HasD w base p F D) (hl : w0.heap.size ≤ base) : Off F w a n c bs :=
  Off.old r0 hb (fun k hk => Nat.le_trans hl (h.foot k hk).1)
theorem bel {B C : Nat} {a b c : World} (h : Below B a b) (k : Below C b c) (hBC : B ≤ C) : Below B a c := h.trans (k.mono hBC)
end Go.Proofs.Ytmgkaoenjnnlmaa
