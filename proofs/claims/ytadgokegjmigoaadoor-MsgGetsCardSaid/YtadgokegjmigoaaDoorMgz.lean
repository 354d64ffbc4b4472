/- Mgt, Mgs, Mgv, as one text. -/
import Derived.Test.YtadgokegjmigoaaDoorMgw
import Derived.Test.YtadgokegjmigoaaDoorTail
namespace Go.Proofs.YtadgokegjmigoaaDoor
open Go.RowKit Go.Shelf
open Go.NB (Rd Kp Stp Off Dis oneB dB Rw RdU Lp Rr encU encB digs)

theorem str_bne {x y : List UInt8} (h : ¬ x = y) : (ByteArray.mk x.toArray != ByteArray.mk y.toArray) = true := by
  have : (x.toArray == y.toArray) = false := by
    rw [beq_eq_false_iff_ne]
    intro e
    exact h (by simpa using congrArg Array.toList e)
  show (!(x.toArray == y.toArray)) = true
  rw [this]; rfl
theorem str_beq {x y : List UInt8} (h : ¬ x = y) : (ByteArray.mk x.toArray == ByteArray.mk y.toArray) = false := by
  have : (x.toArray == y.toArray) = false := by
    rw [beq_eq_false_iff_ne]
    intro e
    exact h (by simpa using congrArg Array.toList e)
  show (x.toArray == y.toArray) = false
  exact this
/-- Whether two messages are the same. -/
def SameE (w : World) (A B : Mm) (e : Ending) (w' : World) : Prop := ∃ V : Bool, e = .returned (.bool V) ∧ (V = true ↔ A = B) ∧ Below w.heap.size w w'
theorem same_no {w w' : World} {A B : Mm} (h : ¬ A = B) (hb : Below w.heap.size w w') : SameE w A B (.returned (.bool false)) w' := ⟨false, rfl, ⟨fun h2 => (nomatch h2), fun h2 => absurd h2 h⟩, hb⟩
theorem take_next {α : Type} {A B : List α} {k : Nat} {x : α} (h : A.take k = B.take k) (h1 : A[k]? = some x) (h2 : B[k]? = some x) : A.take (k + 1) = B.take (k + 1) := by
  rw [List.take_add_one, List.take_add_one, h, h1, h2]

set_option maxRecDepth 100000 in
set_option maxHeartbeats 16000000 in
theorem same_loop (w : World) (kind1 shard1 seg1 code1 : Int) (ballot1 slot1 client1 seq1 pos1 n c1 c2 : Nat) (a1 a2 : Option Addr) (xs1 xs2 : List Nat) (bs1 : List UInt8) (h1 : RdU w a1 n c1 xs1) (h2 : RdU w a2 n c2 xs2) :
    Calls Tryd.prog 13 #[.agg #[.int .i64 kind1, .int .u64 (ballot1 : Int), .int .u64 (slot1 : Int), .int .i64 shard1, .int .i64 seg1, .int .u64 (client1 : Int), .int .u64 (seq1 : Int), .int .u64 (pos1 : Int), .int .i64 code1, .slice a1 n c1, .string (ByteArray.mk bs1.toArray)], .agg #[.int .i64 kind1, .int .u64 (ballot1 : Int), .int .u64 (slot1 : Int), .int .i64 shard1, .int .i64 seg1, .int .u64 (client1 : Int), .int .u64 (seq1 : Int), .int .u64 (pos1 : Int), .int .i64 code1, .slice a2 n c2, .string (ByteArray.mk bs1.toArray)]] w (SameE w ⟨kind1, ballot1, slot1, shard1, seg1, client1, seq1, pos1, code1, xs1, bs1⟩ ⟨kind1, ballot1, slot1, shard1, seg1, client1, seq1, pos1, code1, xs2, bs1⟩) := by
  have hb1 := Rd.bound h1.1
  have hb2 := Rd.bound h2.1
  have BB : Below w.heap.size w ((w.alloc (.cells #[.int .i64 kind1, .int .u64 (ballot1 : Int), .int .u64 (slot1 : Int), .int .i64 shard1, .int .i64 seg1, .int .u64 (client1 : Int), .int .u64 (seq1 : Int), .int .u64 (pos1 : Int), .int .i64 code1, .slice a1 n c1, .string (ByteArray.mk bs1.toArray)] 36)).alloc (.cells #[.int .i64 kind1, .int .u64 (ballot1 : Int), .int .u64 (slot1 : Int), .int .i64 shard1, .int .i64 seg1, .int .u64 (client1 : Int), .int .u64 (seq1 : Int), .int .u64 (pos1 : Int), .int .i64 code1, .slice a2 n c2, .string (ByteArray.mk bs1.toArray)] 36)) := NB.twoB _ _ _
  obtain ⟨C1, hC1⟩ : ∃ C : Mm, C = ⟨kind1, ballot1, slot1, shard1, seg1, client1, seq1, pos1, code1, xs1, bs1⟩ := ⟨_, rfl⟩
  obtain ⟨C2, hC2⟩ : ∃ C : Mm, C = ⟨kind1, ballot1, slot1, shard1, seg1, client1, seq1, pos1, code1, xs2, bs1⟩ := ⟨_, rfl⟩
  rw [← hC1, ← hC2]
  have HC1 := Go.Lib.hid hC1; have HC2 := Go.Lib.hid hC2
  clear hC1 hC2
  have hh := NB.RdU.size h1
  have hn := NB.RdU.size h2
  have r1 : Rw ((w.alloc (.cells #[.int .i64 kind1, .int .u64 (ballot1 : Int), .int .u64 (slot1 : Int), .int .i64 shard1, .int .i64 seg1, .int .u64 (client1 : Int), .int .u64 (seq1 : Int), .int .u64 (pos1 : Int), .int .i64 code1, .slice a1 n c1, .string (ByteArray.mk bs1.toArray)] 36)).alloc (.cells #[.int .i64 kind1, .int .u64 (ballot1 : Int), .int .u64 (slot1 : Int), .int .i64 shard1, .int .i64 seg1, .int .u64 (client1 : Int), .int .u64 (seq1 : Int), .int .u64 (pos1 : Int), .int .i64 code1, .slice a2 n c2, .string (ByteArray.mk bs1.toArray)] 36)) w.heap.size [.int .i64 kind1, .int .u64 (ballot1 : Int), .int .u64 (slot1 : Int), .int .i64 shard1, .int .i64 seg1, .int .u64 (client1 : Int), .int .u64 (seq1 : Int), .int .u64 (pos1 : Int), .int .i64 code1, .slice a1 n c1, .string (ByteArray.mk bs1.toArray)] 36 := (NB.rw_new w [.int .i64 kind1, .int .u64 (ballot1 : Int), .int .u64 (slot1 : Int), .int .i64 shard1, .int .i64 seg1, .int .u64 (client1 : Int), .int .u64 (seq1 : Int), .int .u64 (pos1 : Int), .int .i64 code1, .slice a1 n c1, .string (ByteArray.mk bs1.toArray)] 36 rfl).below (oneB _ _)
  have r2 : Rw ((w.alloc (.cells #[.int .i64 kind1, .int .u64 (ballot1 : Int), .int .u64 (slot1 : Int), .int .i64 shard1, .int .i64 seg1, .int .u64 (client1 : Int), .int .u64 (seq1 : Int), .int .u64 (pos1 : Int), .int .i64 code1, .slice a1 n c1, .string (ByteArray.mk bs1.toArray)] 36)).alloc (.cells #[.int .i64 kind1, .int .u64 (ballot1 : Int), .int .u64 (slot1 : Int), .int .i64 shard1, .int .i64 seg1, .int .u64 (client1 : Int), .int .u64 (seq1 : Int), .int .u64 (pos1 : Int), .int .i64 code1, .slice a2 n c2, .string (ByteArray.mk bs1.toArray)] 36)) (w.heap.size + 1) [.int .i64 kind1, .int .u64 (ballot1 : Int), .int .u64 (slot1 : Int), .int .i64 shard1, .int .i64 seg1, .int .u64 (client1 : Int), .int .u64 (seq1 : Int), .int .u64 (pos1 : Int), .int .i64 code1, .slice a2 n c2, .string (ByteArray.mk bs1.toArray)] 36 := NB.rw_new (w.alloc (.cells #[.int .i64 kind1, .int .u64 (ballot1 : Int), .int .u64 (slot1 : Int), .int .i64 shard1, .int .i64 seg1, .int .u64 (client1 : Int), .int .u64 (seq1 : Int), .int .u64 (pos1 : Int), .int .i64 code1, .slice a1 n c1, .string (ByteArray.mk bs1.toArray)] 36)) [.int .i64 kind1, .int .u64 (ballot1 : Int), .int .u64 (slot1 : Int), .int .i64 shard1, .int .i64 seg1, .int .u64 (client1 : Int), .int .u64 (seq1 : Int), .int .u64 (pos1 : Int), .int .i64 code1, .slice a2 n c2, .string (ByteArray.mk bs1.toArray)] 36 (by simp)
  have hno : ¬ xs1 = xs2 → ¬ C1 = C2 := fun hh h => hh (by rw [HC1.out, HC2.out] at h; exact congrArg Mm.vec h)
  have hyes : xs1 = xs2 → C1 = C2 := fun hh => by rw [HC1.out, HC2.out, hh]
  have HNO := Go.Lib.hid hno; have HYES := Go.Lib.hid hyes
  have HL1 := Go.Lib.hid hh; have HL2 := Go.Lib.hid hn
  clear hno hyes HC1 HC2 hh hn
  go_enter Tryd.func13, Tryd.ntmps13
  go_wp2_with fail
  generalize ((w.alloc (.cells #[.int .i64 kind1, .int .u64 (ballot1 : Int), .int .u64 (slot1 : Int), .int .i64 shard1, .int .i64 seg1, .int .u64 (client1 : Int), .int .u64 (seq1 : Int), .int .u64 (pos1 : Int), .int .i64 code1, .slice a1 n c1, .string (ByteArray.mk bs1.toArray)] 36)).alloc (.cells #[.int .i64 kind1, .int .u64 (ballot1 : Int), .int .u64 (slot1 : Int), .int .i64 shard1, .int .i64 seg1, .int .u64 (client1 : Int), .int .u64 (seq1 : Int), .int .u64 (pos1 : Int), .int .i64 code1, .slice a2 n c2, .string (ByteArray.mk bs1.toArray)] 36)) = w1 at *
  go_loopw [5] (fun x wr => ∃ i : Nat, i ≤ n ∧ x = .int .i64 (i : Int) ∧ xs1.take i = xs2.take i ∧ Below w.heap.size w wr ∧ Below w1.heap.size w1 wr) (fun x _ => n - (intOf x).toNat)
  case atStart => exact ⟨0, by omega, rfl, rfl, BB, Below.refl _ _⟩
  case round =>
    obtain ⟨i, hi, rfl, htk, B, B1⟩ := hrel
    have q1r := r1.below B1
    have q2r := r2.below B1
    have HTK := Go.Lib.hid htk
    clear htk
    have c9 := q1r.cell 9 _ rfl
    have d9 := q2r.cell 9 _ rfl
    by_cases hlt : i < n
    case neg =>
      have hii : ¬ (i : Int) < (n : Int) := by omega
      obtain rfl : i = n := by omega
      have heq : C1 = C2 := HYES.out (by
        have := HTK.out
        rwa [List.take_of_length_le (by have := HL1.out; have := HL2.out; omega), List.take_of_length_le (by have := HL2.out; omega)] at this)
      have HE := Go.Lib.hid heq
      clear heq
      go_wp2_with fail
      go_ret
      exact ⟨true, rfl, ⟨fun _ => HE.out, fun _ => rfl⟩, B⟩
    have hii : (i : Int) < (n : Int) := by omega
    obtain ⟨x1, hx1⟩ : ∃ x, xs1[i]? = some x := ⟨xs1[i]'(by have := HL1.out; omega), List.getElem?_eq_getElem _⟩
    obtain ⟨x2, hx2⟩ : ∃ x, xs2[i]? = some x := ⟨xs2[i]'(by have := HL2.out; omega), List.getElem?_eq_getElem _⟩
    obtain ⟨b1, o1, rfl, hc1⟩ := Rd.pos ((h1.below B).below (dB wr)).1 (by omega)
    obtain ⟨b2, o2, rfl, hc2⟩ := Rd.pos ((h2.below B).below (dB wr)).1 (by omega)
    have p0 : wr.drew.cell? ⟨b1, o1 + i, none⟩ = some (.int .u64 (x1 : Int)) := hc1 i _ (by rw [List.getElem?_map, hx1]; rfl)
    have q0 : wr.drew.cell? ⟨b2, o2 + i, none⟩ = some (.int .u64 (x2 : Int)) := hc2 i _ (by rw [List.getElem?_map, hx2]; rfl)
    have hnext : x1 = x2 → xs1.take (i + 1) = xs2.take (i + 1) := fun he => take_next HTK.out hx1 (by rw [he]; exact hx2)
    have hdiff : ¬ x1 = x2 → ¬ C1 = C2 := fun hne => HNO.out (fun h => hne (by rw [h, hx2] at hx1; exact (Option.some.inj hx1).symm))
    have HNX := Go.Lib.hid hnext; have HD := Go.Lib.hid hdiff
    clear hnext hdiff hc1 hc2 hx1 hx2
    go_wp2_with fail
    have B8 := B.drew
    have B18 := B1.drew
    have z1 := q1r.below (dB wr)
    have z2 := q2r.below (dB wr)
    clear B B1 q1r q2r c9 d9
    have c9 := z1.cell 9 _ rfl
    have d9 := z2.cell 9 _ rfl
    refine NB.wp_region_t [] (by kernel_rfl) ?_
    generalize wr.drew = w8 at *
    by_cases hs : x1 = x2
    case neg =>
      have hb : ((x1 : Int) != (x2 : Int)) = true := by simp; omega
      have hne := HD.out hs
      have HNE := Go.Lib.hid hne
      clear hne hs HD HNX HNO HYES
      refine NB.t_p 0 rfl (by kernel_rfl) (fun K hK => ?_); go_simp; refine hK _ ?_; clear hK K
      refine NB.t_r 1 [3, 4, 10] rfl (by kernel_rfl) (by kernel_rfl) (by go_simp) _ (fun w' hw' => NB.run_op_load rfl rfl Tryd.underlying30 rfl c9 hw') (fun K hK => ?_); go_simp; refine hK _ ?_; clear hK K
      refine NB.t_p 2 rfl (by kernel_rfl) (fun K hK => ?_); go_simp; refine hK _ ?_; clear hK K
      refine NB.t_p 3 rfl (by kernel_rfl) (fun K hK => ?_); go_simp; refine hK _ ?_; clear hK K
      refine NB.t_r 4 [10] rfl (by kernel_rfl) (by kernel_rfl) (by go_simp) _ (fun w' hw' => NB.run_op_load rfl rfl Tryd.underlying29 rfl p0 hw') (fun K hK => ?_); go_simp; refine hK _ ?_; clear hK K
      refine NB.t_p 5 rfl (by kernel_rfl) (fun K hK => ?_); go_simp; refine hK _ ?_; clear hK K
      refine NB.t_r 6 [8, 9, 10] rfl (by kernel_rfl) (by kernel_rfl) (by go_simp) _ (fun w' hw' => NB.run_op_load rfl rfl Tryd.underlying30 rfl d9 hw') (fun K hK => ?_); go_simp; refine hK _ ?_; clear hK K
      refine NB.t_p 7 rfl (by kernel_rfl) (fun K hK => ?_); go_simp; refine hK _ ?_; clear hK K
      refine NB.t_p 8 rfl (by kernel_rfl) (fun K hK => ?_); go_simp; refine hK _ ?_; clear hK K
      refine NB.t_r 9 [10] rfl (by kernel_rfl) (by kernel_rfl) (by go_simp) _ (fun w' hw' => NB.run_op_load rfl rfl Tryd.underlying29 rfl q0 hw') (fun K hK => ?_); go_simp; refine hK _ ?_; clear hK K
      refine NB.t_p 10 rfl (by kernel_rfl) (fun K hK => ?_); go_simp; refine hK _ ?_; clear hK K
      refine NB.t_end (by kernel_rfl) ?_
      go_wp2_with fail
      go_ret
      exact same_no HNE.out B8
    · subst hs
      refine NB.t_p 0 rfl (by kernel_rfl) (fun K hK => ?_); go_simp; refine hK _ ?_; clear hK K
      refine NB.t_r 1 [3, 4, 10] rfl (by kernel_rfl) (by kernel_rfl) (by go_simp) _ (fun w' hw' => NB.run_op_load rfl rfl Tryd.underlying30 rfl c9 hw') (fun K hK => ?_); go_simp; refine hK _ ?_; clear hK K
      refine NB.t_p 2 rfl (by kernel_rfl) (fun K hK => ?_); go_simp; refine hK _ ?_; clear hK K
      refine NB.t_p 3 rfl (by kernel_rfl) (fun K hK => ?_); go_simp; refine hK _ ?_; clear hK K
      refine NB.t_r 4 [10] rfl (by kernel_rfl) (by kernel_rfl) (by go_simp) _ (fun w' hw' => NB.run_op_load rfl rfl Tryd.underlying29 rfl p0 hw') (fun K hK => ?_); go_simp; refine hK _ ?_; clear hK K
      refine NB.t_p 5 rfl (by kernel_rfl) (fun K hK => ?_); go_simp; refine hK _ ?_; clear hK K
      refine NB.t_r 6 [8, 9, 10] rfl (by kernel_rfl) (by kernel_rfl) (by go_simp) _ (fun w' hw' => NB.run_op_load rfl rfl Tryd.underlying30 rfl d9 hw') (fun K hK => ?_); go_simp; refine hK _ ?_; clear hK K
      refine NB.t_p 7 rfl (by kernel_rfl) (fun K hK => ?_); go_simp; refine hK _ ?_; clear hK K
      refine NB.t_p 8 rfl (by kernel_rfl) (fun K hK => ?_); go_simp; refine hK _ ?_; clear hK K
      refine NB.t_r 9 [10] rfl (by kernel_rfl) (by kernel_rfl) (by go_simp) _ (fun w' hw' => NB.run_op_load rfl rfl Tryd.underlying29 rfl q0 hw') (fun K hK => ?_); go_simp; refine hK _ ?_; clear hK K
      refine NB.t_p 10 rfl (by kernel_rfl) (fun K hK => ?_); go_simp; refine hK _ ?_; clear hK K
      refine NB.t_end (by kernel_rfl) ?_
      go_wp2_with fail
      go_round
      case rel => exact ⟨i + 1, by omega, by go_num, HNX.out rfl, B8, B18⟩
      case measure => simp [intOf]; omega
end Go.Proofs.YtadgokegjmigoaaDoor
namespace Go.Proofs.YtadgokegjmigoaaDoor
open Go.RowKit Go.Shelf
open Go.NB (Rd Kp Stp Off Dis oneB dB Rw RdU Lp Rr encU encB digs)

set_option maxRecDepth 100000 in
set_option maxHeartbeats 16000000 in
theorem same_any (w : World) (kind1 kind2 shard1 shard2 seg1 seg2 code1 code2 : Int) (ballot1 ballot2 slot1 slot2 client1 client2 seq1 seq2 pos1 pos2 n1 n2 c1 c2 : Nat) (a1 a2 : Option Addr) (xs1 xs2 : List Nat) (bs1 bs2 : List UInt8) (h1 : RdU w a1 n1 c1 xs1) (h2 : RdU w a2 n2 c2 xs2) :
    Calls Tryd.prog 13 #[.agg #[.int .i64 kind1, .int .u64 (ballot1 : Int), .int .u64 (slot1 : Int), .int .i64 shard1, .int .i64 seg1, .int .u64 (client1 : Int), .int .u64 (seq1 : Int), .int .u64 (pos1 : Int), .int .i64 code1, .slice a1 n1 c1, .string (ByteArray.mk bs1.toArray)], .agg #[.int .i64 kind2, .int .u64 (ballot2 : Int), .int .u64 (slot2 : Int), .int .i64 shard2, .int .i64 seg2, .int .u64 (client2 : Int), .int .u64 (seq2 : Int), .int .u64 (pos2 : Int), .int .i64 code2, .slice a2 n2 c2, .string (ByteArray.mk bs2.toArray)]] w (SameE w ⟨kind1, ballot1, slot1, shard1, seg1, client1, seq1, pos1, code1, xs1, bs1⟩ ⟨kind2, ballot2, slot2, shard2, seg2, client2, seq2, pos2, code2, xs2, bs2⟩) := by
  have hb1 := Rd.bound h1.1
  have hb2 := Rd.bound h2.1
  have BB : Below w.heap.size w ((w.alloc (.cells #[.int .i64 kind1, .int .u64 (ballot1 : Int), .int .u64 (slot1 : Int), .int .i64 shard1, .int .i64 seg1, .int .u64 (client1 : Int), .int .u64 (seq1 : Int), .int .u64 (pos1 : Int), .int .i64 code1, .slice a1 n1 c1, .string (ByteArray.mk bs1.toArray)] 36)).alloc (.cells #[.int .i64 kind2, .int .u64 (ballot2 : Int), .int .u64 (slot2 : Int), .int .i64 shard2, .int .i64 seg2, .int .u64 (client2 : Int), .int .u64 (seq2 : Int), .int .u64 (pos2 : Int), .int .i64 code2, .slice a2 n2 c2, .string (ByteArray.mk bs2.toArray)] 36)) := NB.twoB _ _ _
  obtain ⟨C1, hC1⟩ : ∃ C : Mm, C = ⟨kind1, ballot1, slot1, shard1, seg1, client1, seq1, pos1, code1, xs1, bs1⟩ := ⟨_, rfl⟩
  obtain ⟨C2, hC2⟩ : ∃ C : Mm, C = ⟨kind2, ballot2, slot2, shard2, seg2, client2, seq2, pos2, code2, xs2, bs2⟩ := ⟨_, rfl⟩
  rw [← hC1, ← hC2]
  have HC1 := Go.Lib.hid hC1; have HC2 := Go.Lib.hid hC2
  clear hC1 hC2
  by_cases hh : kind1 = kind2
  case neg =>
    have hb : (kind1 != kind2) = true := by simp; omega
    have hne : ¬ C1 = C2 := fun h => hh (by rw [HC1.out, HC2.out] at h; exact congrArg Mm.kind h)
    have HNE := Go.Lib.hid hne
    clear hne hh
    go_enter Tryd.func13, Tryd.ntmps13
    go_wp2_with fail
    go_ret
    exact same_no HNE.out BB
  subst hh
  by_cases hh : ballot1 = ballot2
  case neg =>
    have hb : ((ballot1 : Int) != (ballot2 : Int)) = true := by simp; omega
    have hne : ¬ C1 = C2 := fun h => hh (by rw [HC1.out, HC2.out] at h; exact congrArg Mm.ballot h)
    have HNE := Go.Lib.hid hne
    clear hne hh
    go_enter Tryd.func13, Tryd.ntmps13
    go_wp2_with fail
    go_ret
    exact same_no HNE.out BB
  subst hh
  by_cases hh : slot1 = slot2
  case neg =>
    have hb : ((slot1 : Int) != (slot2 : Int)) = true := by simp; omega
    have hne : ¬ C1 = C2 := fun h => hh (by rw [HC1.out, HC2.out] at h; exact congrArg Mm.slot h)
    have HNE := Go.Lib.hid hne
    clear hne hh
    go_enter Tryd.func13, Tryd.ntmps13
    go_wp2_with fail
    go_ret
    exact same_no HNE.out BB
  subst hh
  by_cases hh : shard1 = shard2
  case neg =>
    have hb : (shard1 != shard2) = true := by simp; omega
    have hne : ¬ C1 = C2 := fun h => hh (by rw [HC1.out, HC2.out] at h; exact congrArg Mm.shard h)
    have HNE := Go.Lib.hid hne
    clear hne hh
    go_enter Tryd.func13, Tryd.ntmps13
    go_wp2_with fail
    go_ret
    exact same_no HNE.out BB
  subst hh
  by_cases hh : seg1 = seg2
  case neg =>
    have hb : (seg1 != seg2) = true := by simp; omega
    have hne : ¬ C1 = C2 := fun h => hh (by rw [HC1.out, HC2.out] at h; exact congrArg Mm.seg h)
    have HNE := Go.Lib.hid hne
    clear hne hh
    go_enter Tryd.func13, Tryd.ntmps13
    go_wp2_with fail
    go_ret
    exact same_no HNE.out BB
  subst hh
  by_cases hh : client1 = client2
  case neg =>
    have hb : ((client1 : Int) != (client2 : Int)) = true := by simp; omega
    have hne : ¬ C1 = C2 := fun h => hh (by rw [HC1.out, HC2.out] at h; exact congrArg Mm.client h)
    have HNE := Go.Lib.hid hne
    clear hne hh
    go_enter Tryd.func13, Tryd.ntmps13
    go_wp2_with fail
    go_ret
    exact same_no HNE.out BB
  subst hh
  by_cases hh : seq1 = seq2
  case neg =>
    have hb : ((seq1 : Int) != (seq2 : Int)) = true := by simp; omega
    have hne : ¬ C1 = C2 := fun h => hh (by rw [HC1.out, HC2.out] at h; exact congrArg Mm.seq h)
    have HNE := Go.Lib.hid hne
    clear hne hh
    go_enter Tryd.func13, Tryd.ntmps13
    go_wp2_with fail
    go_ret
    exact same_no HNE.out BB
  subst hh
  by_cases hh : pos1 = pos2
  case neg =>
    have hb : ((pos1 : Int) != (pos2 : Int)) = true := by simp; omega
    have hne : ¬ C1 = C2 := fun h => hh (by rw [HC1.out, HC2.out] at h; exact congrArg Mm.pos h)
    have HNE := Go.Lib.hid hne
    clear hne hh
    go_enter Tryd.func13, Tryd.ntmps13
    go_wp2_with fail
    go_ret
    exact same_no HNE.out BB
  subst hh
  by_cases hh : code1 = code2
  case neg =>
    have hb : (code1 != code2) = true := by simp; omega
    have hne : ¬ C1 = C2 := fun h => hh (by rw [HC1.out, HC2.out] at h; exact congrArg Mm.code h)
    have HNE := Go.Lib.hid hne
    clear hne hh
    go_enter Tryd.func13, Tryd.ntmps13
    go_wp2_with fail
    go_ret
    exact same_no HNE.out BB
  subst hh
  by_cases hh : bs1 = bs2
  case neg =>
    have hb := str_bne hh
    have hb2 := str_beq hh
    have hb3 : (bs1 == bs2) = false := beq_eq_false_iff_ne.2 hh
    have hne : ¬ C1 = C2 := fun h => hh (by rw [HC1.out, HC2.out] at h; exact congrArg Mm.body h)
    have HNE := Go.Lib.hid hne
    clear hne hh
    go_enter Tryd.func13, Tryd.ntmps13
    go_wp2_with fail
    go_ret
    exact same_no HNE.out BB
  subst hh
  by_cases hh : n1 = n2
  case neg =>
    have hb : ((n1 : Int) != (n2 : Int)) = true := by simp; omega
    have hne : ¬ C1 = C2 := fun h => hh (by rw [HC1.out, HC2.out] at h; have := congrArg (fun m : Mm => m.vec.length) h; simp only at this; rw [NB.RdU.size h1, NB.RdU.size h2] at this; exact this)
    have HNE := Go.Lib.hid hne
    clear hne hh
    go_enter Tryd.func13, Tryd.ntmps13
    go_wp2_with fail
    go_ret
    exact same_no HNE.out BB
  subst hh
  rw [HC1.out, HC2.out]
  exact same_loop w kind1 shard1 seg1 code1 ballot1 slot1 client1 seq1 pos1 _ _ _ _ _ _ _ _ h1 h2
end Go.Proofs.YtadgokegjmigoaaDoor
namespace Go.Proofs.YtadgokegjmigoaaDoor
open Go.RowKit Go.Shelf
open Go.NB (Rd Kp Stp Off Dis oneB dB Rw RdU Lp Rr encU encB digs)

set_option maxRecDepth 100000 in
set_option maxHeartbeats 4000000 in
theorem msgof_any (w : World) (kd sh sg cd : Int) (bl sl cl sq ps nv cv nb cb : Nat) (av ab : Option Addr) (bs : List UInt8) (hb : NB.RdB w ab nb cb bs) :
    Calls Tryd.prog 14 #[.agg #[.int .i64 kd, .int .u64 (bl : Int), .int .u64 (sl : Int), .int .i64 sh, .int .i64 sg, .int .u64 (cl : Int), .int .u64 (sq : Int), .int .u64 (ps : Int), .int .i64 cd, .slice av nv cv, .slice ab nb cb]] w
      fun e w' => e = .returned (.agg #[.int .i64 kd, .int .u64 (bl : Int), .int .u64 (sl : Int), .int .i64 sh, .int .i64 sg, .int .u64 (cl : Int), .int .u64 (sq : Int), .int .u64 (ps : Int), .int .i64 cd, .slice av nv cv, .string (ByteArray.mk bs.toArray)]) ∧ Below w.heap.size w w' := by
  have X1 := oneB w (.cells #[.int .i64 kd, .int .u64 (bl : Int), .int .u64 (sl : Int), .int .i64 sh, .int .i64 sg, .int .u64 (cl : Int), .int .u64 (sq : Int), .int .u64 (ps : Int), .int .i64 cd, .slice av nv cv, .slice ab nb cb] 32)
  have X2 := NB.bel X1 (oneB _ (.cells #[.int .i64 0, .int .u64 0, .int .u64 0, .int .i64 0, .int .i64 0, .int .u64 0, .int .u64 0, .int .u64 0, .int .i64 0, .slice none 0 0, .string (ByteArray.mk #[])] 36)) X1.size
  have R2 := Rd.below hb X2
  go_enter Tryd.func14, Tryd.ntmps14
  go_wp2_with (refine NB.wpList_conv_str rfl 22 9 (.tmp 24) rfl Tryd.underlying22 Tryd.underlying5 Tryd.underlying9 ab nb cb bs rfl R2 ?_)
  refine bodyPost_ret (v := .agg #[.int .i64 kd, .int .u64 (bl : Int), .int .u64 (sl : Int), .int .i64 sh, .int .i64 sg, .int .u64 (cl : Int), .int .u64 (sq : Int), .int .u64 (ps : Int), .int .i64 cd, .slice av nv cv, .string (ByteArray.mk bs.toArray)]) (by simp [results, Tryd.results14, go_sem]) rfl ?_
  exact ⟨rfl, NB.bel X1 (oneB _ _) X1.size⟩
end Go.Proofs.YtadgokegjmigoaaDoor
