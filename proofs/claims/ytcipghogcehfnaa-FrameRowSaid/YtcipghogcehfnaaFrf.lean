/- The reference on frames, walked: All. -/
import Derived.Test.YtcipghogcehfnaaFre
namespace Go.Proofs.Ytcipghogcehfnaa
open Go.RowKit
open Go.NB (Rd Kp Stp Off Dis Rr encU oneB dB Rw digs)

def rfV (f : Fr) : List Value := [.int .u8 (f.1.toNat : Int), .string ⟨f.2.toArray⟩]
def rfsV (l : List Fr) : List Value := l.flatMap rfV
theorem rfsV_snoc (l : List Fr) (x : Fr) : rfsV l ++ rfV x = rfsV (l ++ [x]) := by simp [rfsV]
theorem rfV_one (x : Fr) : ∀ u ∈ rfV x, u.oneCell' = true := by
  intro u hu
  simp [rfV] at hu
  rcases hu with rfl | rfl <;> rfl
theorem slTR : NB.SlT Try.prog 36 30 (.agg #[.int .u8 0, .string ⟨#[]⟩]) 2 24 :=
  ⟨Try.underlying36, info_parts (by kernel_rfl), rfl, by omega⟩
theorem rf_rd (w : World) (x : Fr) (t : TypeId) {g : Nat} (hg : g = w.heap.size) : Rd 2 (w.alloc (.cells #[.int .u8 (x.1.toNat : Int), .string ⟨x.2.toArray⟩] t)) (some ⟨g, 0, none⟩) 1 1 (rfV x) := NB.rd_new w #[.int .u8 (x.1.toNat : Int), .string ⟨x.2.toArray⟩] t 1 rfl (by unfold maxLen; omega) hg
def RAllE (w : World) (r : List Fr × Nat) (e : Ending) (w' : World) : Prop :=
  ∃ a c, e = .returned (.tuple #[.slice a r.1.length c, .int .i64 (r.2 : Int)]) ∧ Rd 2 w' a r.1.length c (rfsV r.1) ∧ Below w.heap.size w w'

set_option maxHeartbeats 1000000 in
theorem rfall_any (w : World) (b : List UInt8) (hl : b.length ≤ 100000000) :
    Calls Try.prog 13 #[.string ⟨b.toArray⟩] w (RAllE w (fallM b)) := by
  go_enter Try.func13, Try.ntmps13
  go_wp2_with fail
  go_loopw [4, 5] (fun v q wr => ∃ (l : List Fr) (k : Nat) (H : Nat → Prop), q = .int .i64 (k : Int) ∧ k ≤ b.length ∧ l.length ≤ k ∧ NB.HasO 30 2 wr w.heap.size H v l.length (rfsV l) ∧ Below w.heap.size w wr ∧ fallM b = (l ++ (fallM (b.drop k)).1, k + (fallM (b.drop k)).2)) (fun _ q _ => b.length - (intOf q).toNat)
  case atStart => exact ⟨[], 0, _, rfl, Nat.zero_le _, Nat.le_refl _, NB.hasO_nil _ _ _ _, Below.refl _ _, by simp⟩
  case round =>
    obtain ⟨l, k, H, rfl, hk, hlk, hO, hB, hf⟩ := hrel
    have ctg := fun w => rfget_any w (b.drop k) (by simp; omega)
    have hpos := fget_pos (b.drop k)
    have hok := fun f n h => fall_ok (b := b.drop k) (f := f) (n := n) h
    have hno := fun h => fall_no (b := b.drop k) h
    obtain ⟨R, hR⟩ : ∃ R, R = fgetM (b.drop k) := ⟨_, rfl⟩
    rw [← hR] at ctg hpos hno
    have HR := Go.Lib.hid hR; clear hR
    obtain ⟨⟨rk, rb⟩, rn, re⟩ := R
    unfold RGetE at ctg
    simp only at ctg hpos hno
    have HF := Go.Lib.hid hf; have HPOS := Go.Lib.hid hpos; have HNO := Go.Lib.hid hno; have HOK := Go.Lib.hid hok
    have HO := Go.Lib.hid hO
    clear hf hpos hno hok hO
    have hki : (k : Int) ≤ (b.length : Int) := by omega
    go_wp2_with fail
    refine (ctg _).mono ?_
    rintro e w1 ⟨rfl, hb1⟩
    have hO1 := HO.out.below hb1
    have B1 := NB.bel hB hb1 hB.size
    have row1 := NB.rw_new w1 [.int .u8 (rk.toNat : Int), .string ⟨rb.toArray⟩] 30 rfl
    have ob := oneB w1 (.cells #[.int .u8 (rk.toNat : Int), .string ⟨rb.toArray⟩] 30)
    simp only [List.toArray] at row1
    have hO2 := hO1.below ob
    have B2 := NB.bel B1 ob B1.size
    clear HO hO1 ob hb1 ctg
    obtain ⟨c0, c1, _⟩ := NB.rw2 row1
    by_cases hre : re = 0
    · obtain ⟨hp1, hp2⟩ := HPOS.out hre
      rw [List.length_drop] at hp2
      have hre' : (re != 0) = false := by simp [hre]
      have hfall := HOK.out (rk, rb) rn (by rw [← HR.out, hre])
      have hf2 := HF.out
      rw [hfall, List.drop_drop] at hf2
      have HF2 := Go.Lib.hid hf2
      clear hfall hf2 HF HNO HOK HPOS HR hre
      have hO3 := Go.Lib.hid hO2
      have hB3 := Go.Lib.hid B2
      clear hO2 row1 B1 B2 hB
      have hll : l.length ≤ 100000000 := by omega
      have HN := Go.Lib.hid (And.intro hk (And.intro hlk (And.intro hp1 hp2)))
      have hwn : IntKind.i64.wrap ((k : Int) + (rn : Int)) = (k : Int) + (rn : Int) := by rw [IntKind.wrap_i64]; omega
      clear hlk hp1 hp2
      go_wp2_with (at_builtin; refine NB.wpList_append_at rfl (.tmp 21) (.tmp 23) 36 rfl w.heap.size slTR _ l.length (rfsV l) rfl (NB.own_keep hO3.out.1 (oneB _ _)) _ 1 1 (rfV (rk, rb)) rfl (rf_rd _ (rk, rb) _ (by simp)) (rfV_one _) (by omega) (by unfold maxLen; omega) (Nat.le_trans hB3.out.size (oneB _ _).size) ?_; intro v' w' ho hg hvb)
      obtain ⟨hO7, hS7⟩ := NB.HasO.grown (F := H) ⟨NB.own_keep hO3.out.1 (oneB _ _), hO3.out.2⟩ ho hg hvb
      have B6 := NB.bel hB3.out (oneB _ (.cells #[.int .u8 (rk.toNat : Int), .string ⟨rb.toArray⟩] 30)) hB3.out.size
      have B7 := NB.bel B6 (hS7.low B6.size (fun k hk => (hO3.out.foot k hk).1)) (Nat.le_refl _)
      rw [rfsV_snoc] at hO7
      obtain ⟨hk, hlk, hp1, hp2⟩ := HN.out
      exact ⟨⟨l ++ [(rk, rb)], k + rn, _, by go_num, by omega, by simp; omega, by simpa using hO7, B7, by rw [HF2.out]; simp [Nat.add_assoc]⟩, by simp [intOf]; omega⟩
    · have hre' : (re != 0) = true := by simp [hre]
      have hfall := HNO.out hre
      have hf2 := HF.out
      rw [hfall] at hf2
      have HF2 := Go.Lib.hid hf2
      clear hfall hf2 HF HNO HOK HPOS HR hre
      obtain ⟨a', c', rfl, hrd, _⟩ := NB.rd_of_own hO2.1
      go_wp2_with fail
      go_ret2
      have hff : fallM b = (l, k) := by rw [HF2.out]; simp
      rw [hff]
      exact ⟨a', c', rfl, hrd, B2⟩
end Go.Proofs.Ytcipghogcehfnaa
