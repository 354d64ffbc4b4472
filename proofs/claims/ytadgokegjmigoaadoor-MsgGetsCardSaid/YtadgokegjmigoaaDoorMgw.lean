/- Messages: the document's example. -/
import Derived.Test.YtadgokegjmigoaaDoorMgk
import Derived.Test.YtadgokegjmigoaaDoorMgp
namespace Go.Proofs.YtadgokegjmigoaaDoor
open Go.RowKit Go.Shelf
open Go.NB (Rd Kp Stp Off Dis oneB dB Rw RdU Lp Rr encU encB digs)

def mE : Mm := { mm0 with kind := 13, slot := 5 }
def mN : Mm := { mm0 with kind := 11, seq := 1 }
theorem mE_ok : mcheckB mE = true := by decide
theorem mE_wf : WfM mE := by constructor <;> simp [mE, mm0]
theorem enc5 : encU 5 = [1, 5] := by simp [encU, digs]
theorem enc2 : encU 2 = [1, 2] := by simp [encU, digs]
theorem mE_fr : frOfM mE = (13, [1, 5]) := by
  show (UInt8.ofNat 13, encU 5 ++ []) = _
  rw [enc5]; rfl
theorem mE_len : (fbL (frOfM mE)).length = 9 := by rw [mE_fr, fbL_len]; show (encU 2).length + 2 + 5 = 9; rw [enc2]; rfl
theorem mE_head : ∃ t, fbL (frOfM mE) = 1 :: 2 :: 13 :: 1 :: 5 :: t := ⟨four (NB.Crc.sumR [encU 2 ++ [13] ++ [1, 5]]), by
  rw [mE_fr, fbL_eq]; show encU 2 ++ 13 :: ([1, 5] ++ four (NB.Crc.sumR [encU 2 ++ [13] ++ [1, 5]])) = _; rw [enc2]; rfl⟩
theorem mE_get : mgetM (fbL (frOfM mE)) = (mE, 0) := by
  have := mget_put mE_ok mE_wf []
  rwa [List.append_nil, if_pos rfl] at this
theorem mN_no : mcheckM mN = 1 := by decide

set_option maxRecDepth 100000 in
set_option maxHeartbeats 4000000 in
theorem mawake_any (w : World) (hT : Tb w) : Calls Tryd.prog 9 #[] w fun e w' => e = .returned (.bool true) ∧ Below w.heap.size w w' := by
  have cp := mput_any w hT mE none 0 none 0 (msgR_nil rfl rfl) mE_wf
  rw [mput_ok mE_ok mE_wf] at cp
  obtain ⟨t, hZt⟩ := mE_head
  have hlz := mE_len
  have hg := mE_get
  have ck := fun w hT => mcheck_any w hT mN none 0 none 0
  rw [mN_no] at ck
  generalize fbL (frOfM mE) = Z at *
  unfold msgV mE mm0 at cp
  unfold msgV mN mm0 at ck
  simp only [List.toArray, List.length_nil] at cp ck
  have HZT := Go.Lib.hid hZt; have HG := Go.Lib.hid hg; have CK := Go.Lib.hid ck; have HT := Go.Lib.hid hT
  clear hZt hg ck hT
  have CP := Go.Lib.hid cp; clear cp
  have HLZ := Go.Lib.hid hlz; clear hlz
  go_enter Tryd.func9, Tryd.ntmps9
  go_wp2_with fail
  refine CP.out.mono ?_
  rintro e w1 ⟨a1, c1, rfl, ho1, hb1⟩
  unfold NB.OwnB at ho1
  simp only [HLZ.out] at ho1 ⊢
  obtain ⟨a1', c1', e1, hr1, hlo1, _⟩ := NB.rd_of_own ho1
  cases e1
  go_wp2_with fail
  refine (mget_any _ (HT.out.grow hb1) _ _ _ Z hr1 (by omega)).mono ?_
  rw [HG.out]
  rintro e w2 ⟨av, cv, ab, cb, rfl, hR2, hb2, _, _⟩
  have old2 := Rd.below hr1 hb2
  have B2 := NB.bel hb1 hb2 hb1.size
  have M3 : Rw (w2.alloc (.cells #[.int .i64 13, .int .u64 0, .int .u64 5, .int .i64 0, .int .i64 0, .int .u64 0, .int .u64 0, .int .u64 0, .int .i64 0, .slice av 0 cv, .slice ab 0 cb] 32)) w2.heap.size [.int .i64 13, .int .u64 0, .int .u64 5, .int .i64 0, .int .i64 0, .int .u64 0, .int .u64 0, .int .u64 0, .int .i64 0, .slice av 0 cv, .slice ab 0 cb] 32 := NB.rw_new w2 [.int .i64 13, .int .u64 0, .int .u64 5, .int .i64 0, .int .i64 0, .int .u64 0, .int .u64 0, .int .u64 0, .int .i64 0, .slice av 0 cv, .slice ab 0 cb] 32 rfl
  have ob : Below w2.heap.size w2 (w2.alloc (.cells #[.int .i64 13, .int .u64 0, .int .u64 5, .int .i64 0, .int .i64 0, .int .u64 0, .int .u64 0, .int .u64 0, .int .i64 0, .slice av 0 cv, .slice ab 0 cb] 32)) := oneB w2 _
  have B3 := NB.bel B2 ob B2.size
  have old3 := Rd.below old2 ob
  unfold msgV mE mm0
  simp only [List.toArray, List.length_nil]
  rw [HZT.out] at old3
  obtain ⟨b1, o1, rfl, hc1⟩ := Rd.pos old3 (by omega)
  have q0 : (w2.alloc (.cells #[.int .i64 13, .int .u64 0, .int .u64 5, .int .i64 0, .int .i64 0, .int .u64 0, .int .u64 0, .int .u64 0, .int .i64 0, .slice av 0 cv, .slice ab 0 cb] 32)).cell? ⟨b1, o1, none⟩ = some (.int .u8 1) := hc1 0 _ rfl
  have q1 : (w2.alloc (.cells #[.int .i64 13, .int .u64 0, .int .u64 5, .int .i64 0, .int .i64 0, .int .u64 0, .int .u64 0, .int .u64 0, .int .i64 0, .slice av 0 cv, .slice ab 0 cb] 32)).cell? ⟨b1, o1 + 1, none⟩ = some (.int .u8 2) := hc1 1 _ rfl
  have q2 : (w2.alloc (.cells #[.int .i64 13, .int .u64 0, .int .u64 5, .int .i64 0, .int .i64 0, .int .u64 0, .int .u64 0, .int .u64 0, .int .i64 0, .slice av 0 cv, .slice ab 0 cb] 32)).cell? ⟨b1, o1 + 2, none⟩ = some (.int .u8 13) := hc1 2 _ rfl
  have q4 : (w2.alloc (.cells #[.int .i64 13, .int .u64 0, .int .u64 5, .int .i64 0, .int .i64 0, .int .u64 0, .int .u64 0, .int .u64 0, .int .i64 0, .slice av 0 cv, .slice ab 0 cb] 32)).cell? ⟨b1, o1 + 4, none⟩ = some (.int .u8 5) := hc1 4 _ rfl
  have d0 : (w2.alloc (.cells #[.int .i64 13, .int .u64 0, .int .u64 5, .int .i64 0, .int .i64 0, .int .u64 0, .int .u64 0, .int .u64 0, .int .i64 0, .slice av 0 cv, .slice ab 0 cb] 32)).cell? ⟨w2.heap.size, 0, none⟩ = some (.int .i64 13) := M3.cell 0 _ rfl
  have d2 : (w2.alloc (.cells #[.int .i64 13, .int .u64 0, .int .u64 5, .int .i64 0, .int .i64 0, .int .u64 0, .int .u64 0, .int .u64 0, .int .i64 0, .slice av 0 cv, .slice ab 0 cb] 32)).cell? ⟨w2.heap.size, 2, none⟩ = some (.int .u64 5) := M3.cell 2 _ rfl
  clear hr1 hlo1 ho1 hb1 hb2 hR2 old2 M3 hc1 B2 ob
  go_wp2_with fail
  refine (CK.out _ (HT.out.grow B3)).mono ?_
  rintro e w4 ⟨rfl, hb4⟩
  have B4 := NB.bel B3 hb4 B3.size
  go_wp2_with fail
  go_ret
  exact ⟨rfl, B4⟩
end Go.Proofs.YtadgokegjmigoaaDoor
