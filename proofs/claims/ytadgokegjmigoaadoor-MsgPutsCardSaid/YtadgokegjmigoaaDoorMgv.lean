/- msgOf: walked. -/
import Derived.Test.YtadgokegjmigoaaDoorMgt
namespace Go.Proofs.YtadgokegjmigoaaDoor
open Go.RowKit Go.Shelf
open Go.NB (Rd Kp Stp Off Dis oneB dB Rw RdU Lp Rr encU encB digs)

set_option maxRecDepth 100000 in
set_option maxHeartbeats 4000000 in
theorem msgof_any (w : World) (kd sh sg cd : Int) (bl sl cl sq ps nv cv nb cb : Nat) (av ab : Option Addr) (bs : List UInt8) (hb : NB.RdB w ab nb cb bs) :
    Calls Tryd.prog 14 #[.agg #[.int .i64 kd, .int .u64 (bl : Int), .int .u64 (sl : Int), .int .i64 sh, .int .i64 sg, .int .u64 (cl : Int), .int .u64 (sq : Int), .int .u64 (ps : Int), .int .i64 cd, .slice av nv cv, .slice ab nb cb]] w
      fun e w' => e = .returned (.agg #[.int .i64 kd, .int .u64 (bl : Int), .int .u64 (sl : Int), .int .i64 sh, .int .i64 sg, .int .u64 (cl : Int), .int .u64 (sq : Int), .int .u64 (ps : Int), .int .i64 cd, .slice av nv cv, .string (ByteArray.mk bs.toArray)]) ∧ Below w.heap.size w w' := by
  have X1 := oneB w (.cells #[.int .i64 kd, .int .u64 (bl : Int), .int .u64 (sl : Int), .int .i64 sh, .int .i64 sg, .int .u64 (cl : Int), .int .u64 (sq : Int), .int .u64 (ps : Int), .int .i64 cd, .slice av nv cv, .slice ab nb cb] 32)
  have X2 := NB.bel X1 (oneB _ (.cells #[.int .i64 0, .int .u64 0, .int .u64 0, .int .i64 0, .int .i64 0, .int .u64 0, .int .u64 0, .int .u64 0, .int .i64 0, .slice none 0 0, .string (ByteArray.mk #[])] 36)) X1.size
  have R2 := Rd.below hb X2
  go_enter Tryd.func14, Tryd.ntmps14
  go_wp2_with (refine NB.wpList_conv_str rfl 22 9 (.tmp 24) rfl Tryd.underlying22 Tryd.underlying5 Tryd.underlying9 ab nb cb bs rfl R2 ?_)
  refine bodyPost_ret (v := .agg #[.int .i64 kd, .int .u64 (bl : Int), .int .u64 (sl : Int), .int .i64 sh, .int .i64 sg, .int .u64 (cl : Int), .int .u64 (sq : Int), .int .u64 (ps : Int), .int .i64 cd, .slice av nv cv, .string (ByteArray.mk bs.toArray)]) (by simp [results, Tryd.results14, go_sem]) rfl ?_
  exact ⟨rfl, NB.bel X1 (oneB _ _) X1.size⟩
end Go.Proofs.YtadgokegjmigoaaDoor
