/- The statements on numbers: 'awake', walked. -/
import Derived.Test.YtgblgifnppfejaaNumc
import Derived.Test.YtgblgifnppfejaaAny
import Derived.Test.YtgblgifnppfejaaOpen
namespace Go.Proofs.Ytgblgifnppfejaa
open Go.RowKit
open Go.NB (Rd Kp Stp Off Dis Rr footR val encU encB digs)

/-- Bytes that are laid anew lie outside of what there was. -/
theorem off_new {F : Nat → Prop} {w : World} {bs : List UInt8} {cs : Array Value} {t : TypeId} (hF : ∀ k, F k → k < w.heap.size) (h : cs.toList = bs.map NB.u8v) {n : Nat} (hn : bs.length = n) (hm : n ≤ maxLen) {fr : Nat × Nat} {g : Nat} (hg : g = w.heap.size) :
    Off F (w.alloc (.cells cs t fr)) (some ⟨g, 0, none⟩) n n bs :=
  ⟨NB.rdB_lit bs h hn hm hg, fun k o e _ hf => by cases e; have := hF _ hf; omega⟩

def awB : List UInt8 := [2, 1, 44, 1, 2, 97, 98]
theorem aw_put : [] ++ encU 300 ++ encB [97, 98] = awB := by
  have h1 : digs 300 = [1, 44] := NB.digs_val [1, 44] (by simp)
  have h2 : digs 2 = [2] := NB.digs_val [2] (by simp)
  have e1 : encU 300 = [2, 1, 44] := by rw [encU, h1]; rfl
  have e2 : encU 2 = [1, 2] := by rw [encU, h2]; rfl
  rw [e1, encB, show ([97, 98] : List UInt8).length = 2 from rfl, e2]
  rfl
theorem aw_l : ([] ++ encU 300).length + ([97, 98] : List UInt8).length ≤ 90000000000 := by
  have := NB.encU_len (x := 300) (by omega)
  simp only [List.nil_append, List.length_cons, List.length_nil]
  omega
def awR : Rr := ⟨[1, 2, 97, 98], 0⟩
theorem aw_u : Rr.uint ⟨awB, 0⟩ = (awR, 300) := by rfl
theorem aw_b : awR.bytes 2 = (⟨[], 0⟩, [97, 98]) := by rfl

theorem aw_cells {w : World} {a : Option Addr} {c : Nat} (h : NB.RdB w a 7 c awB) :
    ∃ b o, w.cell? ⟨b, o, none⟩ = some (.int .u8 2) ∧ w.cell? ⟨b, o + 1, none⟩ = some (.int .u8 1) ∧ w.cell? ⟨b, o + 2, none⟩ = some (.int .u8 44) ∧ a = some ⟨b, o, none⟩ := by
  obtain ⟨b, o, e, hc⟩ := NB.RdB.at h (by omega)
  exact ⟨b, o, hc 0 (by omega), hc 1 (by omega), hc 2 (by omega), e⟩

set_option maxHeartbeats 1000000 in
theorem awake_any (w : World) : Calls Try.prog 9 #[] w fun e w' => e = .returned (.bool true) ∧ Below w.heap.size w w' := by
  have kc := fun (w : World) (C : Array Value) (n c : Nat) => Lib.run_convert_bytes_const (P := Try.prog) w 23 5 C n c Try.underlying23 Try.underlying5
  have k2 : (2 : Nat) ≤ maxLen := by unfold maxLen; omega
  go_enter Try.func9, Try.ntmps9
  go_wp2_with (first
    | (go_at_call 10; refine (wnew_any _).mono ?_; rintro e w1 ⟨p, F1, rfl, hW1, hb1⟩)
    | (go_at_call 11; refine (wuint_any _ _ _ _ _ 300 (by omega) hW1 (by simp)).mono ?_; rintro e w2 ⟨rfl, F2, hW2, hS2⟩)
    | (go_at_call 13; refine (wbytes_any _ _ _ _ _ _ _ _ [97, 98] (hW2.below ((Below.refl _ _).alloc (Nat.le_refl _) _)) (off_new (bs := [97, 98]) (n := 2) (fun k hk => (hW2.foot k hk).2) rfl rfl k2 rfl) aw_l).mono ?_; rw [aw_put]; rintro e w3 ⟨rfl, F3, hW3, hS3⟩)
    | (go_at_call 15; refine (wout_any _ _ _ _ _ hW3 (by decide)).mono ?_; rintro e w4 ⟨a4, c4, rfl, ho4, hb4⟩; have r4 := (Off.fresh (F := fun _ => False) ho4 (fun _ h => h.elim)).rd; rw [show awB.length = 7 from rfl] at r4 ⊢)
    | (go_at_call 17; refine (rnew_any _ _ _ _ _ r4 (by decide)).mono ?_; rintro e w5 ⟨q, F5, rfl, hR5, hb5⟩; have o5 := Off.old r4 hb5 (fun k hk => (hR5.foot k hk).1))
    | (go_at_call 18; refine (ruint_any _ _ _ _ _ hR5).mono ?_; rw [aw_u]; rintro e w6 ⟨rfl, F6, hR6, hS6⟩)
    | (go_at_call 20; refine (rbytes_any _ _ _ _ _ 2 (by omega) hR6 (by decide)).mono ?_; rw [aw_b]; rintro e w7 ⟨a7, c7, F7, rfl, ho7, hR7, hS7, hf7⟩; obtain ⟨b8, o8, q0, q1, q2, rfl⟩ := aw_cells ((o5.step hS6).step hS7).rd; clear r4 o5 ho4)
    | (refine NB.wpList_conv_str rfl 23 9 (.tmp 47) rfl Try.underlying23 Try.underlying5 Try.underlying9 a7 2 c7 [97, 98] rfl hf7.rd ?_)
    | (go_at_call 25; refine (rend_any _ _ _ _ _ hR7).mono ?_; rw [show Rr.fin ⟨[], 0⟩ = 0 from rfl]; rintro e w' ⟨rfl, e2⟩; subst w'))
  go_ret
  refine ⟨rfl, ?_⟩
  have B2 := NB.bel hb1 (hW1.low hS2) (Nat.le_refl _)
  have B3 := NB.bel (B2.alloc B2.size _) ((hW2.below ((Below.refl _ _).alloc (Nat.le_refl _) _)).low hS3) (Nat.le_refl _)
  have B4 := NB.bel B3 hb4 B3.size
  have B5 := NB.bel B4 hb5 B4.size
  exact NB.bel (NB.bel B5 (hR5.low hS6) B4.size) (hR6.low hS7) B4.size
end Go.Proofs.Ytgblgifnppfejaa
