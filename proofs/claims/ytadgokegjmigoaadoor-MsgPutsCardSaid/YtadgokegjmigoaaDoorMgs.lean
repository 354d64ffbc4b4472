/- The reference's Same: its fields. -/
import Derived.Test.YtadgokegjmigoaaDoorMgt
namespace Go.Proofs.YtadgokegjmigoaaDoor
open Go.RowKit Go.Shelf
open Go.NB (Rd Kp Stp Off Dis oneB dB Rw RdU Lp Rr encU encB digs)

set_option maxRecDepth 100000 in
set_option maxHeartbeats 16000000 in
theorem same_any (w : World) (kind1 kind2 shard1 shard2 seg1 seg2 code1 code2 : Int) (ballot1 ballot2 slot1 slot2 client1 client2 seq1 seq2 pos1 pos2 n1 n2 c1 c2 : Nat) (a1 a2 : Option Addr) (xs1 xs2 : List Nat) (bs1 bs2 : List UInt8) (h1 : RdU w a1 n1 c1 xs1) (h2 : RdU w a2 n2 c2 xs2) :
    Calls Tryd.prog 13 #[.agg #[.int .i64 kind1, .int .u64 (ballot1 : Int), .int .u64 (slot1 : Int), .int .i64 shard1, .int .i64 seg1, .int .u64 (client1 : Int), .int .u64 (seq1 : Int), .int .u64 (pos1 : Int), .int .i64 code1, .slice a1 n1 c1, .string (ByteArray.mk bs1.toArray)], .agg #[.int .i64 kind2, .int .u64 (ballot2 : Int), .int .u64 (slot2 : Int), .int .i64 shard2, .int .i64 seg2, .int .u64 (client2 : Int), .int .u64 (seq2 : Int), .int .u64 (pos2 : Int), .int .i64 code2, .slice a2 n2 c2, .string (ByteArray.mk bs2.toArray)]] w (SameE w ⟨kind1, ballot1, slot1, shard1, seg1, client1, seq1, pos1, code1, xs1, bs1⟩ ⟨kind2, ballot2, slot2, shard2, seg2, client2, seq2, pos2, code2, xs2, bs2⟩) := by
  have hb1 := Rd.bound h1.1
  have hb2 := Rd.bound h2.1
  have BB : Below w.heap.size w ((w.alloc (.cells #[.int .i64 kind1, .int .u64 (ballot1 : Int), .int .u64 (slot1 : Int), .int .i64 shard1, .int .i64 seg1, .int .u64 (client1 : Int), .int .u64 (seq1 : Int), .int .u64 (pos1 : Int), .int .i64 code1, .slice a1 n1 c1, .string (ByteArray.mk bs1.toArray)] 36)).alloc (.cells #[.int .i64 kind2, .int .u64 (ballot2 : Int), .int .u64 (slot2 : Int), .int .i64 shard2, .int .i64 seg2, .int .u64 (client2 : Int), .int .u64 (seq2 : Int), .int .u64 (pos2 : Int), .int .i64 code2, .slice a2 n2 c2, .string (ByteArray.mk bs2.toArray)] 36)) := NB.twoB _ _ _
  obtain ⟨C1, hC1⟩ : ∃ C : Mm, C = ⟨kind1, ballot1, slot1, shard1, seg1, client1, seq1, pos1, code1, xs1, bs1⟩ := ⟨_, rfl⟩
  obtain ⟨C2, hC2⟩ : ∃ C : Mm, C = ⟨kind2, ballot2, slot2, shard2, seg2, client2, seq2, pos2, code2, xs2, bs2⟩ := ⟨_, rfl⟩
  rw [← hC1, ← hC2]
  have HC1 := Go.Lib.hid hC1; have HC2 := Go.Lib.hid hC2
  clear hC1 hC2
  by_cases hh : kind1 = kind2
  case neg =>
    have hb : (kind1 != kind2) = true := by simp; omega
    have hne : ¬ C1 = C2 := fun h => hh (by rw [HC1.out, HC2.out] at h; exact congrArg Mm.kind h)
    have HNE := Go.Lib.hid hne
    clear hne hh
    go_enter Tryd.func13, Tryd.ntmps13
    go_wp2_with fail
    go_ret
    exact same_no HNE.out BB
  subst hh
  by_cases hh : ballot1 = ballot2
  case neg =>
    have hb : ((ballot1 : Int) != (ballot2 : Int)) = true := by simp; omega
    have hne : ¬ C1 = C2 := fun h => hh (by rw [HC1.out, HC2.out] at h; exact congrArg Mm.ballot h)
    have HNE := Go.Lib.hid hne
    clear hne hh
    go_enter Tryd.func13, Tryd.ntmps13
    go_wp2_with fail
    go_ret
    exact same_no HNE.out BB
  subst hh
  by_cases hh : slot1 = slot2
  case neg =>
    have hb : ((slot1 : Int) != (slot2 : Int)) = true := by simp; omega
    have hne : ¬ C1 = C2 := fun h => hh (by rw [HC1.out, HC2.out] at h; exact congrArg Mm.slot h)
    have HNE := Go.Lib.hid hne
    clear hne hh
    go_enter Tryd.func13, Tryd.ntmps13
    go_wp2_with fail
    go_ret
    exact same_no HNE.out BB
  subst hh
  by_cases hh : shard1 = shard2
  case neg =>
    have hb : (shard1 != shard2) = true := by simp; omega
    have hne : ¬ C1 = C2 := fun h => hh (by rw [HC1.out, HC2.out] at h; exact congrArg Mm.shard h)
    have HNE := Go.Lib.hid hne
    clear hne hh
    go_enter Tryd.func13, Tryd.ntmps13
    go_wp2_with fail
    go_ret
    exact same_no HNE.out BB
  subst hh
  by_cases hh : seg1 = seg2
  case neg =>
    have hb : (seg1 != seg2) = true := by simp; omega
    have hne : ¬ C1 = C2 := fun h => hh (by rw [HC1.out, HC2.out] at h; exact congrArg Mm.seg h)
    have HNE := Go.Lib.hid hne
    clear hne hh
    go_enter Tryd.func13, Tryd.ntmps13
    go_wp2_with fail
    go_ret
    exact same_no HNE.out BB
  subst hh
  by_cases hh : client1 = client2
  case neg =>
    have hb : ((client1 : Int) != (client2 : Int)) = true := by simp; omega
    have hne : ¬ C1 = C2 := fun h => hh (by rw [HC1.out, HC2.out] at h; exact congrArg Mm.client h)
    have HNE := Go.Lib.hid hne
    clear hne hh
    go_enter Tryd.func13, Tryd.ntmps13
    go_wp2_with fail
    go_ret
    exact same_no HNE.out BB
  subst hh
  by_cases hh : seq1 = seq2
  case neg =>
    have hb : ((seq1 : Int) != (seq2 : Int)) = true := by simp; omega
    have hne : ¬ C1 = C2 := fun h => hh (by rw [HC1.out, HC2.out] at h; exact congrArg Mm.seq h)
    have HNE := Go.Lib.hid hne
    clear hne hh
    go_enter Tryd.func13, Tryd.ntmps13
    go_wp2_with fail
    go_ret
    exact same_no HNE.out BB
  subst hh
  by_cases hh : pos1 = pos2
  case neg =>
    have hb : ((pos1 : Int) != (pos2 : Int)) = true := by simp; omega
    have hne : ¬ C1 = C2 := fun h => hh (by rw [HC1.out, HC2.out] at h; exact congrArg Mm.pos h)
    have HNE := Go.Lib.hid hne
    clear hne hh
    go_enter Tryd.func13, Tryd.ntmps13
    go_wp2_with fail
    go_ret
    exact same_no HNE.out BB
  subst hh
  by_cases hh : code1 = code2
  case neg =>
    have hb : (code1 != code2) = true := by simp; omega
    have hne : ¬ C1 = C2 := fun h => hh (by rw [HC1.out, HC2.out] at h; exact congrArg Mm.code h)
    have HNE := Go.Lib.hid hne
    clear hne hh
    go_enter Tryd.func13, Tryd.ntmps13
    go_wp2_with fail
    go_ret
    exact same_no HNE.out BB
  subst hh
  by_cases hh : bs1 = bs2
  case neg =>
    have hb := str_bne hh
    have hb2 := str_beq hh
    have hb3 : (bs1 == bs2) = false := beq_eq_false_iff_ne.2 hh
    have hne : ¬ C1 = C2 := fun h => hh (by rw [HC1.out, HC2.out] at h; exact congrArg Mm.body h)
    have HNE := Go.Lib.hid hne
    clear hne hh
    go_enter Tryd.func13, Tryd.ntmps13
    go_wp2_with fail
    go_ret
    exact same_no HNE.out BB
  subst hh
  by_cases hh : n1 = n2
  case neg =>
    have hb : ((n1 : Int) != (n2 : Int)) = true := by simp; omega
    have hne : ¬ C1 = C2 := fun h => hh (by rw [HC1.out, HC2.out] at h; have := congrArg (fun m : Mm => m.vec.length) h; simp only at this; rw [NB.RdU.size h1, NB.RdU.size h2] at this; exact this)
    have HNE := Go.Lib.hid hne
    clear hne hh
    go_enter Tryd.func13, Tryd.ntmps13
    go_wp2_with fail
    go_ret
    exact same_no HNE.out BB
  subst hh
  rw [HC1.out, HC2.out]
  exact same_loop w kind1 shard1 seg1 code1 ballot1 slot1 client1 seq1 pos1 _ _ _ _ _ _ _ _ h1 h2
end Go.Proofs.YtadgokegjmigoaaDoor
