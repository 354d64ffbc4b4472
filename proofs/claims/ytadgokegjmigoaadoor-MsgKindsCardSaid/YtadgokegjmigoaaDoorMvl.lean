/- The law MsgKinds where the kind is none. -/
import Derived.Test.YtadgokegjmigoaaDoorMvk
namespace Go.Proofs.YtadgokegjmigoaaDoor
open Go.RowKit Go.Shelf
open Go.NB (Rd Kp Stp Off Dis oneB dB Rw RdU Lp Rr encU encB digs)

set_option maxRecDepth 100000 in
set_option maxHeartbeats 4000000 in
theorem kinds_A10 (w : World) (hT : Tb w) (kind wh : Int) (hw0 : 0 ≤ wh) (hw1 : wh < 256) (hm : wh % 10 = 0) (V : Bool) (S : List UInt8) (hS : S.length ≤ 7) (hk : ¬ 1 ≤ kind) (hSA : S = [])
    (hV : S.any (· == ltr.getD 0 0) = V) (hC : mcheckM (mK kind 0) = if V = true then 0 else 1) :
    Calls Tryd.prog 6 #[.int .i64 kind, .int .u8 wh] w fun e w' => e = .returned (.bool true) ∧ Below w.heap.size w w' := by
  have HT := Go.Lib.hid hT
  have HV := Go.Lib.hid hV
  have CK0 := fun W hT av cv ab cb => mcheck_any W hT (mK kind 0) av cv ab cb
  rw [hC] at CK0
  subst hSA
  obtain rfl : V = false := HV.out.symm
  simp only [Bool.false_eq_true, if_false, reduceIte] at CK0
  have CK := Go.Lib.hid CK0
  clear hT hV CK0 hC
  unfold msgV mK mm0 at CK
  simp only [List.toArray, List.length_nil, List.length_cons] at CK
  go_enter Tryd.func6, Tryd.ntmps6
  go_wp2_with fail
  refine (mawake_any _ HT.out).mono ?_
  rintro e w1 ⟨rfl, hb1⟩
  have hT1 := HT.out.grow hb1
  have B2 : Below w.heap.size w (w1.alloc (.cells #[(.int .i64 kind), (.int .u64 0), (.int .u64 0), (.int .i64 0), (.int .i64 0), (.int .u64 0), (.int .u64 0), (.int .u64 0), (.int .i64 0), (.slice none 0 0), (.slice none 0 0)] 32)) := NB.bel hb1 (oneB w1 _) hb1.size
  have B3 : Below w.heap.size w ((w1.alloc (.cells #[(.int .i64 kind), (.int .u64 0), (.int .u64 0), (.int .i64 0), (.int .i64 0), (.int .u64 0), (.int .u64 0), (.int .u64 0), (.int .i64 0), (.slice none 0 0), (.slice none 0 0)] 32)).alloc (.cells #[.string (ByteArray.mk #[]), .string (ByteArray.mk #[104, 103, 99, 113, 120]), .string (ByteArray.mk #[104, 103, 99, 113, 112, 100]), .string (ByteArray.mk #[104, 103, 99, 113, 112, 120]), .string (ByteArray.mk #[104, 103, 112]), .string (ByteArray.mk #[104, 103, 112]), .string (ByteArray.mk #[104, 103, 118]), .string (ByteArray.mk #[98, 115]), .string (ByteArray.mk #[98, 115, 120]), .string (ByteArray.mk #[98, 115, 120]), .string (ByteArray.mk #[98, 115]), .string (ByteArray.mk #[98]), .string (ByteArray.mk #[115, 120]), .string (ByteArray.mk #[115]), .string (ByteArray.mk #[99, 113, 112]), .string (ByteArray.mk #[104, 103, 99, 113, 112, 100, 120]), .string (ByteArray.mk #[104, 103, 99, 113, 112, 100]), .string (ByteArray.mk #[99, 113, 112, 100]), .string (ByteArray.mk #[98, 115])] 9)) := NB.bel B2 (oneB (w1.alloc (.cells #[(.int .i64 kind), (.int .u64 0), (.int .u64 0), (.int .i64 0), (.int .i64 0), (.int .u64 0), (.int .u64 0), (.int .u64 0), (.int .i64 0), (.slice none 0 0), (.slice none 0 0)] 32)) _) B2.size
  have R3 : Rw ((w1.alloc (.cells #[(.int .i64 kind), (.int .u64 0), (.int .u64 0), (.int .i64 0), (.int .i64 0), (.int .u64 0), (.int .u64 0), (.int .u64 0), (.int .i64 0), (.slice none 0 0), (.slice none 0 0)] 32)).alloc (.cells #[.string (ByteArray.mk #[]), .string (ByteArray.mk #[104, 103, 99, 113, 120]), .string (ByteArray.mk #[104, 103, 99, 113, 112, 100]), .string (ByteArray.mk #[104, 103, 99, 113, 112, 120]), .string (ByteArray.mk #[104, 103, 112]), .string (ByteArray.mk #[104, 103, 112]), .string (ByteArray.mk #[104, 103, 118]), .string (ByteArray.mk #[98, 115]), .string (ByteArray.mk #[98, 115, 120]), .string (ByteArray.mk #[98, 115, 120]), .string (ByteArray.mk #[98, 115]), .string (ByteArray.mk #[98]), .string (ByteArray.mk #[115, 120]), .string (ByteArray.mk #[115]), .string (ByteArray.mk #[99, 113, 112]), .string (ByteArray.mk #[104, 103, 99, 113, 112, 100, 120]), .string (ByteArray.mk #[104, 103, 99, 113, 112, 100]), .string (ByteArray.mk #[99, 113, 112, 100]), .string (ByteArray.mk #[98, 115])] 9)) w1.heap.size [(.int .i64 kind), (.int .u64 0), (.int .u64 0), (.int .i64 0), (.int .i64 0), (.int .u64 0), (.int .u64 0), (.int .u64 0), (.int .i64 0), (.slice none 0 0), (.slice none 0 0)] 32 := (NB.rw_new w1 _ 32 rfl).below (oneB (w1.alloc (.cells #[(.int .i64 kind), (.int .u64 0), (.int .u64 0), (.int .i64 0), (.int .i64 0), (.int .u64 0), (.int .u64 0), (.int .u64 0), (.int .i64 0), (.slice none 0 0), (.slice none 0 0)] 32)) _)
  have z2 : (w1.alloc (.cells #[(.int .i64 kind), (.int .u64 0), (.int .u64 0), (.int .i64 0), (.int .i64 0), (.int .u64 0), (.int .u64 0), (.int .u64 0), (.int .i64 0), (.slice none 0 0), (.slice none 0 0)] 32)).heap.size = w1.heap.size + 1 := by simp
  have c1 := R3.cell 1 _ rfl
  have f1 := R3.free 1
  have B5 : Below w.heap.size w ((w1.alloc (.cells #[(.int .i64 kind), (.int .u64 1), (.int .u64 0), (.int .i64 0), (.int .i64 0), (.int .u64 0), (.int .u64 0), (.int .u64 0), (.int .i64 0), (.slice none 0 0), (.slice none 0 0)] 32)).alloc (.cells #[.string (ByteArray.mk #[]), .string (ByteArray.mk #[104, 103, 99, 113, 120]), .string (ByteArray.mk #[104, 103, 99, 113, 112, 100]), .string (ByteArray.mk #[104, 103, 99, 113, 112, 120]), .string (ByteArray.mk #[104, 103, 112]), .string (ByteArray.mk #[104, 103, 112]), .string (ByteArray.mk #[104, 103, 118]), .string (ByteArray.mk #[98, 115]), .string (ByteArray.mk #[98, 115, 120]), .string (ByteArray.mk #[98, 115, 120]), .string (ByteArray.mk #[98, 115]), .string (ByteArray.mk #[98]), .string (ByteArray.mk #[115, 120]), .string (ByteArray.mk #[115]), .string (ByteArray.mk #[99, 113, 112]), .string (ByteArray.mk #[104, 103, 99, 113, 112, 100, 120]), .string (ByteArray.mk #[104, 103, 99, 113, 112, 100]), .string (ByteArray.mk #[99, 113, 112, 100]), .string (ByteArray.mk #[98, 115])] 9)) := NB.bel (NB.bel hb1 (oneB w1 _) hb1.size) (oneB (w1.alloc (.cells #[(.int .i64 kind), (.int .u64 1), (.int .u64 0), (.int .i64 0), (.int .i64 0), (.int .u64 0), (.int .u64 0), (.int .u64 0), (.int .i64 0), (.slice none 0 0), (.slice none 0 0)] 32)) _) (NB.bel hb1 (oneB w1 _) hb1.size).size
  have R5 : Rw ((w1.alloc (.cells #[(.int .i64 kind), (.int .u64 1), (.int .u64 0), (.int .i64 0), (.int .i64 0), (.int .u64 0), (.int .u64 0), (.int .u64 0), (.int .i64 0), (.slice none 0 0), (.slice none 0 0)] 32)).alloc (.cells #[.string (ByteArray.mk #[]), .string (ByteArray.mk #[104, 103, 99, 113, 120]), .string (ByteArray.mk #[104, 103, 99, 113, 112, 100]), .string (ByteArray.mk #[104, 103, 99, 113, 112, 120]), .string (ByteArray.mk #[104, 103, 112]), .string (ByteArray.mk #[104, 103, 112]), .string (ByteArray.mk #[104, 103, 118]), .string (ByteArray.mk #[98, 115]), .string (ByteArray.mk #[98, 115, 120]), .string (ByteArray.mk #[98, 115, 120]), .string (ByteArray.mk #[98, 115]), .string (ByteArray.mk #[98]), .string (ByteArray.mk #[115, 120]), .string (ByteArray.mk #[115]), .string (ByteArray.mk #[99, 113, 112]), .string (ByteArray.mk #[104, 103, 99, 113, 112, 100, 120]), .string (ByteArray.mk #[104, 103, 99, 113, 112, 100]), .string (ByteArray.mk #[99, 113, 112, 100]), .string (ByteArray.mk #[98, 115])] 9)) w1.heap.size [(.int .i64 kind), (.int .u64 1), (.int .u64 0), (.int .i64 0), (.int .i64 0), (.int .u64 0), (.int .u64 0), (.int .u64 0), (.int .i64 0), (.slice none 0 0), (.slice none 0 0)] 32 := (NB.rw_new w1 _ 32 rfl).below (oneB (w1.alloc (.cells #[(.int .i64 kind), (.int .u64 1), (.int .u64 0), (.int .i64 0), (.int .i64 0), (.int .u64 0), (.int .u64 0), (.int .u64 0), (.int .i64 0), (.slice none 0 0), (.slice none 0 0)] 32)) _)
  have hT5 := HT.out.grow B5
  have l5 := R5.lt
  clear R3 B2 B3 hb1 hT1
  go_wp2_with fail
  go_loopw [10, 11] (fun x y wr => x = .bool false ∧ y = .int .i64 0 ∧ Below w.heap.size w wr ∧ Rw wr w1.heap.size [(.int .i64 kind), (.int .u64 1), (.int .u64 0), (.int .i64 0), (.int .i64 0), (.int .u64 0), (.int .u64 0), (.int .u64 0), (.int .i64 0), (.slice none 0 0), (.slice none 0 0)] 32) (fun _ _ _ => 0)
  case atStart => exact ⟨rfl, rfl, B5, R5⟩
  case round =>
    obtain ⟨rfl, rfl, BR, RR⟩ := hrel
    clear B5 R5 hT5 hm
    have e0 := RR.cell 0 _ rfl
    have e1 := RR.cell 1 _ rfl
    have e2 := RR.cell 2 _ rfl
    have e3 := RR.cell 3 _ rfl
    have e4 := RR.cell 4 _ rfl
    have e5 := RR.cell 5 _ rfl
    have e6 := RR.cell 6 _ rfl
    have e7 := RR.cell 7 _ rfl
    have e8 := RR.cell 8 _ rfl
    have e9 := RR.cell 9 _ rfl
    have e10 := RR.cell 10 _ rfl
    go_wp2_with fail
    refine (CK.out _ (HT.out.grow BR) none 0 none 0).mono ?_
    rintro e w9 ⟨rfl, hb9⟩
    have B9 := NB.bel BR hb9 BR.size
    go_wp2_with fail
    go_ret
    exact ⟨rfl, B9⟩

set_option maxRecDepth 100000 in
set_option maxHeartbeats 4000000 in
theorem kinds_A11 (w : World) (hT : Tb w) (kind wh : Int) (hw0 : 0 ≤ wh) (hw1 : wh < 256) (hm : wh % 10 = 1) (V : Bool) (S : List UInt8) (hS : S.length ≤ 7) (hk : ¬ 1 ≤ kind) (hSA : S = [])
    (hV : S.any (· == ltr.getD 1 0) = V) (hC : mcheckM (mK kind 1) = if V = true then 0 else 1) :
    Calls Tryd.prog 6 #[.int .i64 kind, .int .u8 wh] w fun e w' => e = .returned (.bool true) ∧ Below w.heap.size w w' := by
  have HT := Go.Lib.hid hT
  have HV := Go.Lib.hid hV
  have CK0 := fun W hT av cv ab cb => mcheck_any W hT (mK kind 1) av cv ab cb
  rw [hC] at CK0
  subst hSA
  obtain rfl : V = false := HV.out.symm
  simp only [Bool.false_eq_true, if_false, reduceIte] at CK0
  have CK := Go.Lib.hid CK0
  clear hT hV CK0 hC
  unfold msgV mK mm0 at CK
  simp only [List.toArray, List.length_nil, List.length_cons] at CK
  go_enter Tryd.func6, Tryd.ntmps6
  go_wp2_with fail
  refine (mawake_any _ HT.out).mono ?_
  rintro e w1 ⟨rfl, hb1⟩
  have hT1 := HT.out.grow hb1
  have B2 : Below w.heap.size w (w1.alloc (.cells #[(.int .i64 kind), (.int .u64 0), (.int .u64 0), (.int .i64 0), (.int .i64 0), (.int .u64 0), (.int .u64 0), (.int .u64 0), (.int .i64 0), (.slice none 0 0), (.slice none 0 0)] 32)) := NB.bel hb1 (oneB w1 _) hb1.size
  have B3 : Below w.heap.size w ((w1.alloc (.cells #[(.int .i64 kind), (.int .u64 0), (.int .u64 0), (.int .i64 0), (.int .i64 0), (.int .u64 0), (.int .u64 0), (.int .u64 0), (.int .i64 0), (.slice none 0 0), (.slice none 0 0)] 32)).alloc (.cells #[.string (ByteArray.mk #[]), .string (ByteArray.mk #[104, 103, 99, 113, 120]), .string (ByteArray.mk #[104, 103, 99, 113, 112, 100]), .string (ByteArray.mk #[104, 103, 99, 113, 112, 120]), .string (ByteArray.mk #[104, 103, 112]), .string (ByteArray.mk #[104, 103, 112]), .string (ByteArray.mk #[104, 103, 118]), .string (ByteArray.mk #[98, 115]), .string (ByteArray.mk #[98, 115, 120]), .string (ByteArray.mk #[98, 115, 120]), .string (ByteArray.mk #[98, 115]), .string (ByteArray.mk #[98]), .string (ByteArray.mk #[115, 120]), .string (ByteArray.mk #[115]), .string (ByteArray.mk #[99, 113, 112]), .string (ByteArray.mk #[104, 103, 99, 113, 112, 100, 120]), .string (ByteArray.mk #[104, 103, 99, 113, 112, 100]), .string (ByteArray.mk #[99, 113, 112, 100]), .string (ByteArray.mk #[98, 115])] 9)) := NB.bel B2 (oneB (w1.alloc (.cells #[(.int .i64 kind), (.int .u64 0), (.int .u64 0), (.int .i64 0), (.int .i64 0), (.int .u64 0), (.int .u64 0), (.int .u64 0), (.int .i64 0), (.slice none 0 0), (.slice none 0 0)] 32)) _) B2.size
  have R3 : Rw ((w1.alloc (.cells #[(.int .i64 kind), (.int .u64 0), (.int .u64 0), (.int .i64 0), (.int .i64 0), (.int .u64 0), (.int .u64 0), (.int .u64 0), (.int .i64 0), (.slice none 0 0), (.slice none 0 0)] 32)).alloc (.cells #[.string (ByteArray.mk #[]), .string (ByteArray.mk #[104, 103, 99, 113, 120]), .string (ByteArray.mk #[104, 103, 99, 113, 112, 100]), .string (ByteArray.mk #[104, 103, 99, 113, 112, 120]), .string (ByteArray.mk #[104, 103, 112]), .string (ByteArray.mk #[104, 103, 112]), .string (ByteArray.mk #[104, 103, 118]), .string (ByteArray.mk #[98, 115]), .string (ByteArray.mk #[98, 115, 120]), .string (ByteArray.mk #[98, 115, 120]), .string (ByteArray.mk #[98, 115]), .string (ByteArray.mk #[98]), .string (ByteArray.mk #[115, 120]), .string (ByteArray.mk #[115]), .string (ByteArray.mk #[99, 113, 112]), .string (ByteArray.mk #[104, 103, 99, 113, 112, 100, 120]), .string (ByteArray.mk #[104, 103, 99, 113, 112, 100]), .string (ByteArray.mk #[99, 113, 112, 100]), .string (ByteArray.mk #[98, 115])] 9)) w1.heap.size [(.int .i64 kind), (.int .u64 0), (.int .u64 0), (.int .i64 0), (.int .i64 0), (.int .u64 0), (.int .u64 0), (.int .u64 0), (.int .i64 0), (.slice none 0 0), (.slice none 0 0)] 32 := (NB.rw_new w1 _ 32 rfl).below (oneB (w1.alloc (.cells #[(.int .i64 kind), (.int .u64 0), (.int .u64 0), (.int .i64 0), (.int .i64 0), (.int .u64 0), (.int .u64 0), (.int .u64 0), (.int .i64 0), (.slice none 0 0), (.slice none 0 0)] 32)) _)
  have z2 : (w1.alloc (.cells #[(.int .i64 kind), (.int .u64 0), (.int .u64 0), (.int .i64 0), (.int .i64 0), (.int .u64 0), (.int .u64 0), (.int .u64 0), (.int .i64 0), (.slice none 0 0), (.slice none 0 0)] 32)).heap.size = w1.heap.size + 1 := by simp
  have c2 := R3.cell 2 _ rfl
  have f2 := R3.free 2
  have B5 : Below w.heap.size w ((w1.alloc (.cells #[(.int .i64 kind), (.int .u64 0), (.int .u64 1), (.int .i64 0), (.int .i64 0), (.int .u64 0), (.int .u64 0), (.int .u64 0), (.int .i64 0), (.slice none 0 0), (.slice none 0 0)] 32)).alloc (.cells #[.string (ByteArray.mk #[]), .string (ByteArray.mk #[104, 103, 99, 113, 120]), .string (ByteArray.mk #[104, 103, 99, 113, 112, 100]), .string (ByteArray.mk #[104, 103, 99, 113, 112, 120]), .string (ByteArray.mk #[104, 103, 112]), .string (ByteArray.mk #[104, 103, 112]), .string (ByteArray.mk #[104, 103, 118]), .string (ByteArray.mk #[98, 115]), .string (ByteArray.mk #[98, 115, 120]), .string (ByteArray.mk #[98, 115, 120]), .string (ByteArray.mk #[98, 115]), .string (ByteArray.mk #[98]), .string (ByteArray.mk #[115, 120]), .string (ByteArray.mk #[115]), .string (ByteArray.mk #[99, 113, 112]), .string (ByteArray.mk #[104, 103, 99, 113, 112, 100, 120]), .string (ByteArray.mk #[104, 103, 99, 113, 112, 100]), .string (ByteArray.mk #[99, 113, 112, 100]), .string (ByteArray.mk #[98, 115])] 9)) := NB.bel (NB.bel hb1 (oneB w1 _) hb1.size) (oneB (w1.alloc (.cells #[(.int .i64 kind), (.int .u64 0), (.int .u64 1), (.int .i64 0), (.int .i64 0), (.int .u64 0), (.int .u64 0), (.int .u64 0), (.int .i64 0), (.slice none 0 0), (.slice none 0 0)] 32)) _) (NB.bel hb1 (oneB w1 _) hb1.size).size
  have R5 : Rw ((w1.alloc (.cells #[(.int .i64 kind), (.int .u64 0), (.int .u64 1), (.int .i64 0), (.int .i64 0), (.int .u64 0), (.int .u64 0), (.int .u64 0), (.int .i64 0), (.slice none 0 0), (.slice none 0 0)] 32)).alloc (.cells #[.string (ByteArray.mk #[]), .string (ByteArray.mk #[104, 103, 99, 113, 120]), .string (ByteArray.mk #[104, 103, 99, 113, 112, 100]), .string (ByteArray.mk #[104, 103, 99, 113, 112, 120]), .string (ByteArray.mk #[104, 103, 112]), .string (ByteArray.mk #[104, 103, 112]), .string (ByteArray.mk #[104, 103, 118]), .string (ByteArray.mk #[98, 115]), .string (ByteArray.mk #[98, 115, 120]), .string (ByteArray.mk #[98, 115, 120]), .string (ByteArray.mk #[98, 115]), .string (ByteArray.mk #[98]), .string (ByteArray.mk #[115, 120]), .string (ByteArray.mk #[115]), .string (ByteArray.mk #[99, 113, 112]), .string (ByteArray.mk #[104, 103, 99, 113, 112, 100, 120]), .string (ByteArray.mk #[104, 103, 99, 113, 112, 100]), .string (ByteArray.mk #[99, 113, 112, 100]), .string (ByteArray.mk #[98, 115])] 9)) w1.heap.size [(.int .i64 kind), (.int .u64 0), (.int .u64 1), (.int .i64 0), (.int .i64 0), (.int .u64 0), (.int .u64 0), (.int .u64 0), (.int .i64 0), (.slice none 0 0), (.slice none 0 0)] 32 := (NB.rw_new w1 _ 32 rfl).below (oneB (w1.alloc (.cells #[(.int .i64 kind), (.int .u64 0), (.int .u64 1), (.int .i64 0), (.int .i64 0), (.int .u64 0), (.int .u64 0), (.int .u64 0), (.int .i64 0), (.slice none 0 0), (.slice none 0 0)] 32)) _)
  have hT5 := HT.out.grow B5
  have l5 := R5.lt
  clear R3 B2 B3 hb1 hT1
  go_wp2_with fail
  go_loopw [10, 11] (fun x y wr => x = .bool false ∧ y = .int .i64 0 ∧ Below w.heap.size w wr ∧ Rw wr w1.heap.size [(.int .i64 kind), (.int .u64 0), (.int .u64 1), (.int .i64 0), (.int .i64 0), (.int .u64 0), (.int .u64 0), (.int .u64 0), (.int .i64 0), (.slice none 0 0), (.slice none 0 0)] 32) (fun _ _ _ => 0)
  case atStart => exact ⟨rfl, rfl, B5, R5⟩
  case round =>
    obtain ⟨rfl, rfl, BR, RR⟩ := hrel
    clear B5 R5 hT5 hm
    have e0 := RR.cell 0 _ rfl
    have e1 := RR.cell 1 _ rfl
    have e2 := RR.cell 2 _ rfl
    have e3 := RR.cell 3 _ rfl
    have e4 := RR.cell 4 _ rfl
    have e5 := RR.cell 5 _ rfl
    have e6 := RR.cell 6 _ rfl
    have e7 := RR.cell 7 _ rfl
    have e8 := RR.cell 8 _ rfl
    have e9 := RR.cell 9 _ rfl
    have e10 := RR.cell 10 _ rfl
    go_wp2_with fail
    refine (CK.out _ (HT.out.grow BR) none 0 none 0).mono ?_
    rintro e w9 ⟨rfl, hb9⟩
    have B9 := NB.bel BR hb9 BR.size
    go_wp2_with fail
    go_ret
    exact ⟨rfl, B9⟩

set_option maxRecDepth 100000 in
set_option maxHeartbeats 4000000 in
theorem kinds_A12 (w : World) (hT : Tb w) (kind wh : Int) (hw0 : 0 ≤ wh) (hw1 : wh < 256) (hm : wh % 10 = 2) (V : Bool) (S : List UInt8) (hS : S.length ≤ 7) (hk : ¬ 1 ≤ kind) (hSA : S = [])
    (hV : S.any (· == ltr.getD 2 0) = V) (hC : mcheckM (mK kind 2) = if V = true then 0 else 1) :
    Calls Tryd.prog 6 #[.int .i64 kind, .int .u8 wh] w fun e w' => e = .returned (.bool true) ∧ Below w.heap.size w w' := by
  have HT := Go.Lib.hid hT
  have HV := Go.Lib.hid hV
  have CK0 := fun W hT av cv ab cb => mcheck_any W hT (mK kind 2) av cv ab cb
  rw [hC] at CK0
  subst hSA
  obtain rfl : V = false := HV.out.symm
  simp only [Bool.false_eq_true, if_false, reduceIte] at CK0
  have CK := Go.Lib.hid CK0
  clear hT hV CK0 hC
  unfold msgV mK mm0 at CK
  simp only [List.toArray, List.length_nil, List.length_cons] at CK
  go_enter Tryd.func6, Tryd.ntmps6
  go_wp2_with fail
  refine (mawake_any _ HT.out).mono ?_
  rintro e w1 ⟨rfl, hb1⟩
  have hT1 := HT.out.grow hb1
  have B2 : Below w.heap.size w (w1.alloc (.cells #[(.int .i64 kind), (.int .u64 0), (.int .u64 0), (.int .i64 0), (.int .i64 0), (.int .u64 0), (.int .u64 0), (.int .u64 0), (.int .i64 0), (.slice none 0 0), (.slice none 0 0)] 32)) := NB.bel hb1 (oneB w1 _) hb1.size
  have B3 : Below w.heap.size w ((w1.alloc (.cells #[(.int .i64 kind), (.int .u64 0), (.int .u64 0), (.int .i64 0), (.int .i64 0), (.int .u64 0), (.int .u64 0), (.int .u64 0), (.int .i64 0), (.slice none 0 0), (.slice none 0 0)] 32)).alloc (.cells #[.string (ByteArray.mk #[]), .string (ByteArray.mk #[104, 103, 99, 113, 120]), .string (ByteArray.mk #[104, 103, 99, 113, 112, 100]), .string (ByteArray.mk #[104, 103, 99, 113, 112, 120]), .string (ByteArray.mk #[104, 103, 112]), .string (ByteArray.mk #[104, 103, 112]), .string (ByteArray.mk #[104, 103, 118]), .string (ByteArray.mk #[98, 115]), .string (ByteArray.mk #[98, 115, 120]), .string (ByteArray.mk #[98, 115, 120]), .string (ByteArray.mk #[98, 115]), .string (ByteArray.mk #[98]), .string (ByteArray.mk #[115, 120]), .string (ByteArray.mk #[115]), .string (ByteArray.mk #[99, 113, 112]), .string (ByteArray.mk #[104, 103, 99, 113, 112, 100, 120]), .string (ByteArray.mk #[104, 103, 99, 113, 112, 100]), .string (ByteArray.mk #[99, 113, 112, 100]), .string (ByteArray.mk #[98, 115])] 9)) := NB.bel B2 (oneB (w1.alloc (.cells #[(.int .i64 kind), (.int .u64 0), (.int .u64 0), (.int .i64 0), (.int .i64 0), (.int .u64 0), (.int .u64 0), (.int .u64 0), (.int .i64 0), (.slice none 0 0), (.slice none 0 0)] 32)) _) B2.size
  have R3 : Rw ((w1.alloc (.cells #[(.int .i64 kind), (.int .u64 0), (.int .u64 0), (.int .i64 0), (.int .i64 0), (.int .u64 0), (.int .u64 0), (.int .u64 0), (.int .i64 0), (.slice none 0 0), (.slice none 0 0)] 32)).alloc (.cells #[.string (ByteArray.mk #[]), .string (ByteArray.mk #[104, 103, 99, 113, 120]), .string (ByteArray.mk #[104, 103, 99, 113, 112, 100]), .string (ByteArray.mk #[104, 103, 99, 113, 112, 120]), .string (ByteArray.mk #[104, 103, 112]), .string (ByteArray.mk #[104, 103, 112]), .string (ByteArray.mk #[104, 103, 118]), .string (ByteArray.mk #[98, 115]), .string (ByteArray.mk #[98, 115, 120]), .string (ByteArray.mk #[98, 115, 120]), .string (ByteArray.mk #[98, 115]), .string (ByteArray.mk #[98]), .string (ByteArray.mk #[115, 120]), .string (ByteArray.mk #[115]), .string (ByteArray.mk #[99, 113, 112]), .string (ByteArray.mk #[104, 103, 99, 113, 112, 100, 120]), .string (ByteArray.mk #[104, 103, 99, 113, 112, 100]), .string (ByteArray.mk #[99, 113, 112, 100]), .string (ByteArray.mk #[98, 115])] 9)) w1.heap.size [(.int .i64 kind), (.int .u64 0), (.int .u64 0), (.int .i64 0), (.int .i64 0), (.int .u64 0), (.int .u64 0), (.int .u64 0), (.int .i64 0), (.slice none 0 0), (.slice none 0 0)] 32 := (NB.rw_new w1 _ 32 rfl).below (oneB (w1.alloc (.cells #[(.int .i64 kind), (.int .u64 0), (.int .u64 0), (.int .i64 0), (.int .i64 0), (.int .u64 0), (.int .u64 0), (.int .u64 0), (.int .i64 0), (.slice none 0 0), (.slice none 0 0)] 32)) _)
  have z2 : (w1.alloc (.cells #[(.int .i64 kind), (.int .u64 0), (.int .u64 0), (.int .i64 0), (.int .i64 0), (.int .u64 0), (.int .u64 0), (.int .u64 0), (.int .i64 0), (.slice none 0 0), (.slice none 0 0)] 32)).heap.size = w1.heap.size + 1 := by simp
  have c3 := R3.cell 3 _ rfl
  have f3 := R3.free 3
  have B5 : Below w.heap.size w ((w1.alloc (.cells #[(.int .i64 kind), (.int .u64 0), (.int .u64 0), (.int .i64 1), (.int .i64 0), (.int .u64 0), (.int .u64 0), (.int .u64 0), (.int .i64 0), (.slice none 0 0), (.slice none 0 0)] 32)).alloc (.cells #[.string (ByteArray.mk #[]), .string (ByteArray.mk #[104, 103, 99, 113, 120]), .string (ByteArray.mk #[104, 103, 99, 113, 112, 100]), .string (ByteArray.mk #[104, 103, 99, 113, 112, 120]), .string (ByteArray.mk #[104, 103, 112]), .string (ByteArray.mk #[104, 103, 112]), .string (ByteArray.mk #[104, 103, 118]), .string (ByteArray.mk #[98, 115]), .string (ByteArray.mk #[98, 115, 120]), .string (ByteArray.mk #[98, 115, 120]), .string (ByteArray.mk #[98, 115]), .string (ByteArray.mk #[98]), .string (ByteArray.mk #[115, 120]), .string (ByteArray.mk #[115]), .string (ByteArray.mk #[99, 113, 112]), .string (ByteArray.mk #[104, 103, 99, 113, 112, 100, 120]), .string (ByteArray.mk #[104, 103, 99, 113, 112, 100]), .string (ByteArray.mk #[99, 113, 112, 100]), .string (ByteArray.mk #[98, 115])] 9)) := NB.bel (NB.bel hb1 (oneB w1 _) hb1.size) (oneB (w1.alloc (.cells #[(.int .i64 kind), (.int .u64 0), (.int .u64 0), (.int .i64 1), (.int .i64 0), (.int .u64 0), (.int .u64 0), (.int .u64 0), (.int .i64 0), (.slice none 0 0), (.slice none 0 0)] 32)) _) (NB.bel hb1 (oneB w1 _) hb1.size).size
  have R5 : Rw ((w1.alloc (.cells #[(.int .i64 kind), (.int .u64 0), (.int .u64 0), (.int .i64 1), (.int .i64 0), (.int .u64 0), (.int .u64 0), (.int .u64 0), (.int .i64 0), (.slice none 0 0), (.slice none 0 0)] 32)).alloc (.cells #[.string (ByteArray.mk #[]), .string (ByteArray.mk #[104, 103, 99, 113, 120]), .string (ByteArray.mk #[104, 103, 99, 113, 112, 100]), .string (ByteArray.mk #[104, 103, 99, 113, 112, 120]), .string (ByteArray.mk #[104, 103, 112]), .string (ByteArray.mk #[104, 103, 112]), .string (ByteArray.mk #[104, 103, 118]), .string (ByteArray.mk #[98, 115]), .string (ByteArray.mk #[98, 115, 120]), .string (ByteArray.mk #[98, 115, 120]), .string (ByteArray.mk #[98, 115]), .string (ByteArray.mk #[98]), .string (ByteArray.mk #[115, 120]), .string (ByteArray.mk #[115]), .string (ByteArray.mk #[99, 113, 112]), .string (ByteArray.mk #[104, 103, 99, 113, 112, 100, 120]), .string (ByteArray.mk #[104, 103, 99, 113, 112, 100]), .string (ByteArray.mk #[99, 113, 112, 100]), .string (ByteArray.mk #[98, 115])] 9)) w1.heap.size [(.int .i64 kind), (.int .u64 0), (.int .u64 0), (.int .i64 1), (.int .i64 0), (.int .u64 0), (.int .u64 0), (.int .u64 0), (.int .i64 0), (.slice none 0 0), (.slice none 0 0)] 32 := (NB.rw_new w1 _ 32 rfl).below (oneB (w1.alloc (.cells #[(.int .i64 kind), (.int .u64 0), (.int .u64 0), (.int .i64 1), (.int .i64 0), (.int .u64 0), (.int .u64 0), (.int .u64 0), (.int .i64 0), (.slice none 0 0), (.slice none 0 0)] 32)) _)
  have hT5 := HT.out.grow B5
  have l5 := R5.lt
  clear R3 B2 B3 hb1 hT1
  go_wp2_with fail
  go_loopw [10, 11] (fun x y wr => x = .bool false ∧ y = .int .i64 0 ∧ Below w.heap.size w wr ∧ Rw wr w1.heap.size [(.int .i64 kind), (.int .u64 0), (.int .u64 0), (.int .i64 1), (.int .i64 0), (.int .u64 0), (.int .u64 0), (.int .u64 0), (.int .i64 0), (.slice none 0 0), (.slice none 0 0)] 32) (fun _ _ _ => 0)
  case atStart => exact ⟨rfl, rfl, B5, R5⟩
  case round =>
    obtain ⟨rfl, rfl, BR, RR⟩ := hrel
    clear B5 R5 hT5 hm
    have e0 := RR.cell 0 _ rfl
    have e1 := RR.cell 1 _ rfl
    have e2 := RR.cell 2 _ rfl
    have e3 := RR.cell 3 _ rfl
    have e4 := RR.cell 4 _ rfl
    have e5 := RR.cell 5 _ rfl
    have e6 := RR.cell 6 _ rfl
    have e7 := RR.cell 7 _ rfl
    have e8 := RR.cell 8 _ rfl
    have e9 := RR.cell 9 _ rfl
    have e10 := RR.cell 10 _ rfl
    go_wp2_with fail
    refine (CK.out _ (HT.out.grow BR) none 0 none 0).mono ?_
    rintro e w9 ⟨rfl, hb9⟩
    have B9 := NB.bel BR hb9 BR.size
    go_wp2_with fail
    go_ret
    exact ⟨rfl, B9⟩

set_option maxRecDepth 100000 in
set_option maxHeartbeats 4000000 in
theorem kinds_A13 (w : World) (hT : Tb w) (kind wh : Int) (hw0 : 0 ≤ wh) (hw1 : wh < 256) (hm : wh % 10 = 3) (V : Bool) (S : List UInt8) (hS : S.length ≤ 7) (hk : ¬ 1 ≤ kind) (hSA : S = [])
    (hV : S.any (· == ltr.getD 3 0) = V) (hC : mcheckM (mK kind 3) = if V = true then 0 else 1) :
    Calls Tryd.prog 6 #[.int .i64 kind, .int .u8 wh] w fun e w' => e = .returned (.bool true) ∧ Below w.heap.size w w' := by
  have HT := Go.Lib.hid hT
  have HV := Go.Lib.hid hV
  have CK0 := fun W hT av cv ab cb => mcheck_any W hT (mK kind 3) av cv ab cb
  rw [hC] at CK0
  subst hSA
  obtain rfl : V = false := HV.out.symm
  simp only [Bool.false_eq_true, if_false, reduceIte] at CK0
  have CK := Go.Lib.hid CK0
  clear hT hV CK0 hC
  unfold msgV mK mm0 at CK
  simp only [List.toArray, List.length_nil, List.length_cons] at CK
  go_enter Tryd.func6, Tryd.ntmps6
  go_wp2_with fail
  refine (mawake_any _ HT.out).mono ?_
  rintro e w1 ⟨rfl, hb1⟩
  have hT1 := HT.out.grow hb1
  have B2 : Below w.heap.size w (w1.alloc (.cells #[(.int .i64 kind), (.int .u64 0), (.int .u64 0), (.int .i64 0), (.int .i64 0), (.int .u64 0), (.int .u64 0), (.int .u64 0), (.int .i64 0), (.slice none 0 0), (.slice none 0 0)] 32)) := NB.bel hb1 (oneB w1 _) hb1.size
  have B3 : Below w.heap.size w ((w1.alloc (.cells #[(.int .i64 kind), (.int .u64 0), (.int .u64 0), (.int .i64 0), (.int .i64 0), (.int .u64 0), (.int .u64 0), (.int .u64 0), (.int .i64 0), (.slice none 0 0), (.slice none 0 0)] 32)).alloc (.cells #[.string (ByteArray.mk #[]), .string (ByteArray.mk #[104, 103, 99, 113, 120]), .string (ByteArray.mk #[104, 103, 99, 113, 112, 100]), .string (ByteArray.mk #[104, 103, 99, 113, 112, 120]), .string (ByteArray.mk #[104, 103, 112]), .string (ByteArray.mk #[104, 103, 112]), .string (ByteArray.mk #[104, 103, 118]), .string (ByteArray.mk #[98, 115]), .string (ByteArray.mk #[98, 115, 120]), .string (ByteArray.mk #[98, 115, 120]), .string (ByteArray.mk #[98, 115]), .string (ByteArray.mk #[98]), .string (ByteArray.mk #[115, 120]), .string (ByteArray.mk #[115]), .string (ByteArray.mk #[99, 113, 112]), .string (ByteArray.mk #[104, 103, 99, 113, 112, 100, 120]), .string (ByteArray.mk #[104, 103, 99, 113, 112, 100]), .string (ByteArray.mk #[99, 113, 112, 100]), .string (ByteArray.mk #[98, 115])] 9)) := NB.bel B2 (oneB (w1.alloc (.cells #[(.int .i64 kind), (.int .u64 0), (.int .u64 0), (.int .i64 0), (.int .i64 0), (.int .u64 0), (.int .u64 0), (.int .u64 0), (.int .i64 0), (.slice none 0 0), (.slice none 0 0)] 32)) _) B2.size
  have R3 : Rw ((w1.alloc (.cells #[(.int .i64 kind), (.int .u64 0), (.int .u64 0), (.int .i64 0), (.int .i64 0), (.int .u64 0), (.int .u64 0), (.int .u64 0), (.int .i64 0), (.slice none 0 0), (.slice none 0 0)] 32)).alloc (.cells #[.string (ByteArray.mk #[]), .string (ByteArray.mk #[104, 103, 99, 113, 120]), .string (ByteArray.mk #[104, 103, 99, 113, 112, 100]), .string (ByteArray.mk #[104, 103, 99, 113, 112, 120]), .string (ByteArray.mk #[104, 103, 112]), .string (ByteArray.mk #[104, 103, 112]), .string (ByteArray.mk #[104, 103, 118]), .string (ByteArray.mk #[98, 115]), .string (ByteArray.mk #[98, 115, 120]), .string (ByteArray.mk #[98, 115, 120]), .string (ByteArray.mk #[98, 115]), .string (ByteArray.mk #[98]), .string (ByteArray.mk #[115, 120]), .string (ByteArray.mk #[115]), .string (ByteArray.mk #[99, 113, 112]), .string (ByteArray.mk #[104, 103, 99, 113, 112, 100, 120]), .string (ByteArray.mk #[104, 103, 99, 113, 112, 100]), .string (ByteArray.mk #[99, 113, 112, 100]), .string (ByteArray.mk #[98, 115])] 9)) w1.heap.size [(.int .i64 kind), (.int .u64 0), (.int .u64 0), (.int .i64 0), (.int .i64 0), (.int .u64 0), (.int .u64 0), (.int .u64 0), (.int .i64 0), (.slice none 0 0), (.slice none 0 0)] 32 := (NB.rw_new w1 _ 32 rfl).below (oneB (w1.alloc (.cells #[(.int .i64 kind), (.int .u64 0), (.int .u64 0), (.int .i64 0), (.int .i64 0), (.int .u64 0), (.int .u64 0), (.int .u64 0), (.int .i64 0), (.slice none 0 0), (.slice none 0 0)] 32)) _)
  have z2 : (w1.alloc (.cells #[(.int .i64 kind), (.int .u64 0), (.int .u64 0), (.int .i64 0), (.int .i64 0), (.int .u64 0), (.int .u64 0), (.int .u64 0), (.int .i64 0), (.slice none 0 0), (.slice none 0 0)] 32)).heap.size = w1.heap.size + 1 := by simp
  have c4 := R3.cell 4 _ rfl
  have f4 := R3.free 4
  have B5 : Below w.heap.size w ((w1.alloc (.cells #[(.int .i64 kind), (.int .u64 0), (.int .u64 0), (.int .i64 0), (.int .i64 1), (.int .u64 0), (.int .u64 0), (.int .u64 0), (.int .i64 0), (.slice none 0 0), (.slice none 0 0)] 32)).alloc (.cells #[.string (ByteArray.mk #[]), .string (ByteArray.mk #[104, 103, 99, 113, 120]), .string (ByteArray.mk #[104, 103, 99, 113, 112, 100]), .string (ByteArray.mk #[104, 103, 99, 113, 112, 120]), .string (ByteArray.mk #[104, 103, 112]), .string (ByteArray.mk #[104, 103, 112]), .string (ByteArray.mk #[104, 103, 118]), .string (ByteArray.mk #[98, 115]), .string (ByteArray.mk #[98, 115, 120]), .string (ByteArray.mk #[98, 115, 120]), .string (ByteArray.mk #[98, 115]), .string (ByteArray.mk #[98]), .string (ByteArray.mk #[115, 120]), .string (ByteArray.mk #[115]), .string (ByteArray.mk #[99, 113, 112]), .string (ByteArray.mk #[104, 103, 99, 113, 112, 100, 120]), .string (ByteArray.mk #[104, 103, 99, 113, 112, 100]), .string (ByteArray.mk #[99, 113, 112, 100]), .string (ByteArray.mk #[98, 115])] 9)) := NB.bel (NB.bel hb1 (oneB w1 _) hb1.size) (oneB (w1.alloc (.cells #[(.int .i64 kind), (.int .u64 0), (.int .u64 0), (.int .i64 0), (.int .i64 1), (.int .u64 0), (.int .u64 0), (.int .u64 0), (.int .i64 0), (.slice none 0 0), (.slice none 0 0)] 32)) _) (NB.bel hb1 (oneB w1 _) hb1.size).size
  have R5 : Rw ((w1.alloc (.cells #[(.int .i64 kind), (.int .u64 0), (.int .u64 0), (.int .i64 0), (.int .i64 1), (.int .u64 0), (.int .u64 0), (.int .u64 0), (.int .i64 0), (.slice none 0 0), (.slice none 0 0)] 32)).alloc (.cells #[.string (ByteArray.mk #[]), .string (ByteArray.mk #[104, 103, 99, 113, 120]), .string (ByteArray.mk #[104, 103, 99, 113, 112, 100]), .string (ByteArray.mk #[104, 103, 99, 113, 112, 120]), .string (ByteArray.mk #[104, 103, 112]), .string (ByteArray.mk #[104, 103, 112]), .string (ByteArray.mk #[104, 103, 118]), .string (ByteArray.mk #[98, 115]), .string (ByteArray.mk #[98, 115, 120]), .string (ByteArray.mk #[98, 115, 120]), .string (ByteArray.mk #[98, 115]), .string (ByteArray.mk #[98]), .string (ByteArray.mk #[115, 120]), .string (ByteArray.mk #[115]), .string (ByteArray.mk #[99, 113, 112]), .string (ByteArray.mk #[104, 103, 99, 113, 112, 100, 120]), .string (ByteArray.mk #[104, 103, 99, 113, 112, 100]), .string (ByteArray.mk #[99, 113, 112, 100]), .string (ByteArray.mk #[98, 115])] 9)) w1.heap.size [(.int .i64 kind), (.int .u64 0), (.int .u64 0), (.int .i64 0), (.int .i64 1), (.int .u64 0), (.int .u64 0), (.int .u64 0), (.int .i64 0), (.slice none 0 0), (.slice none 0 0)] 32 := (NB.rw_new w1 _ 32 rfl).below (oneB (w1.alloc (.cells #[(.int .i64 kind), (.int .u64 0), (.int .u64 0), (.int .i64 0), (.int .i64 1), (.int .u64 0), (.int .u64 0), (.int .u64 0), (.int .i64 0), (.slice none 0 0), (.slice none 0 0)] 32)) _)
  have hT5 := HT.out.grow B5
  have l5 := R5.lt
  clear R3 B2 B3 hb1 hT1
  go_wp2_with fail
  go_loopw [10, 11] (fun x y wr => x = .bool false ∧ y = .int .i64 0 ∧ Below w.heap.size w wr ∧ Rw wr w1.heap.size [(.int .i64 kind), (.int .u64 0), (.int .u64 0), (.int .i64 0), (.int .i64 1), (.int .u64 0), (.int .u64 0), (.int .u64 0), (.int .i64 0), (.slice none 0 0), (.slice none 0 0)] 32) (fun _ _ _ => 0)
  case atStart => exact ⟨rfl, rfl, B5, R5⟩
  case round =>
    obtain ⟨rfl, rfl, BR, RR⟩ := hrel
    clear B5 R5 hT5 hm
    have e0 := RR.cell 0 _ rfl
    have e1 := RR.cell 1 _ rfl
    have e2 := RR.cell 2 _ rfl
    have e3 := RR.cell 3 _ rfl
    have e4 := RR.cell 4 _ rfl
    have e5 := RR.cell 5 _ rfl
    have e6 := RR.cell 6 _ rfl
    have e7 := RR.cell 7 _ rfl
    have e8 := RR.cell 8 _ rfl
    have e9 := RR.cell 9 _ rfl
    have e10 := RR.cell 10 _ rfl
    go_wp2_with fail
    refine (CK.out _ (HT.out.grow BR) none 0 none 0).mono ?_
    rintro e w9 ⟨rfl, hb9⟩
    have B9 := NB.bel BR hb9 BR.size
    go_wp2_with fail
    go_ret
    exact ⟨rfl, B9⟩

set_option maxRecDepth 100000 in
set_option maxHeartbeats 4000000 in
theorem kinds_A14 (w : World) (hT : Tb w) (kind wh : Int) (hw0 : 0 ≤ wh) (hw1 : wh < 256) (hm : wh % 10 = 4) (V : Bool) (S : List UInt8) (hS : S.length ≤ 7) (hk : ¬ 1 ≤ kind) (hSA : S = [])
    (hV : S.any (· == ltr.getD 4 0) = V) (hC : mcheckM (mK kind 4) = if V = true then 0 else 1) :
    Calls Tryd.prog 6 #[.int .i64 kind, .int .u8 wh] w fun e w' => e = .returned (.bool true) ∧ Below w.heap.size w w' := by
  have HT := Go.Lib.hid hT
  have HV := Go.Lib.hid hV
  have CK0 := fun W hT av cv ab cb => mcheck_any W hT (mK kind 4) av cv ab cb
  rw [hC] at CK0
  subst hSA
  obtain rfl : V = false := HV.out.symm
  simp only [Bool.false_eq_true, if_false, reduceIte] at CK0
  have CK := Go.Lib.hid CK0
  clear hT hV CK0 hC
  unfold msgV mK mm0 at CK
  simp only [List.toArray, List.length_nil, List.length_cons] at CK
  go_enter Tryd.func6, Tryd.ntmps6
  go_wp2_with fail
  refine (mawake_any _ HT.out).mono ?_
  rintro e w1 ⟨rfl, hb1⟩
  have hT1 := HT.out.grow hb1
  have B2 : Below w.heap.size w (w1.alloc (.cells #[(.int .i64 kind), (.int .u64 0), (.int .u64 0), (.int .i64 0), (.int .i64 0), (.int .u64 0), (.int .u64 0), (.int .u64 0), (.int .i64 0), (.slice none 0 0), (.slice none 0 0)] 32)) := NB.bel hb1 (oneB w1 _) hb1.size
  have B3 : Below w.heap.size w ((w1.alloc (.cells #[(.int .i64 kind), (.int .u64 0), (.int .u64 0), (.int .i64 0), (.int .i64 0), (.int .u64 0), (.int .u64 0), (.int .u64 0), (.int .i64 0), (.slice none 0 0), (.slice none 0 0)] 32)).alloc (.cells #[.string (ByteArray.mk #[]), .string (ByteArray.mk #[104, 103, 99, 113, 120]), .string (ByteArray.mk #[104, 103, 99, 113, 112, 100]), .string (ByteArray.mk #[104, 103, 99, 113, 112, 120]), .string (ByteArray.mk #[104, 103, 112]), .string (ByteArray.mk #[104, 103, 112]), .string (ByteArray.mk #[104, 103, 118]), .string (ByteArray.mk #[98, 115]), .string (ByteArray.mk #[98, 115, 120]), .string (ByteArray.mk #[98, 115, 120]), .string (ByteArray.mk #[98, 115]), .string (ByteArray.mk #[98]), .string (ByteArray.mk #[115, 120]), .string (ByteArray.mk #[115]), .string (ByteArray.mk #[99, 113, 112]), .string (ByteArray.mk #[104, 103, 99, 113, 112, 100, 120]), .string (ByteArray.mk #[104, 103, 99, 113, 112, 100]), .string (ByteArray.mk #[99, 113, 112, 100]), .string (ByteArray.mk #[98, 115])] 9)) := NB.bel B2 (oneB (w1.alloc (.cells #[(.int .i64 kind), (.int .u64 0), (.int .u64 0), (.int .i64 0), (.int .i64 0), (.int .u64 0), (.int .u64 0), (.int .u64 0), (.int .i64 0), (.slice none 0 0), (.slice none 0 0)] 32)) _) B2.size
  have R3 : Rw ((w1.alloc (.cells #[(.int .i64 kind), (.int .u64 0), (.int .u64 0), (.int .i64 0), (.int .i64 0), (.int .u64 0), (.int .u64 0), (.int .u64 0), (.int .i64 0), (.slice none 0 0), (.slice none 0 0)] 32)).alloc (.cells #[.string (ByteArray.mk #[]), .string (ByteArray.mk #[104, 103, 99, 113, 120]), .string (ByteArray.mk #[104, 103, 99, 113, 112, 100]), .string (ByteArray.mk #[104, 103, 99, 113, 112, 120]), .string (ByteArray.mk #[104, 103, 112]), .string (ByteArray.mk #[104, 103, 112]), .string (ByteArray.mk #[104, 103, 118]), .string (ByteArray.mk #[98, 115]), .string (ByteArray.mk #[98, 115, 120]), .string (ByteArray.mk #[98, 115, 120]), .string (ByteArray.mk #[98, 115]), .string (ByteArray.mk #[98]), .string (ByteArray.mk #[115, 120]), .string (ByteArray.mk #[115]), .string (ByteArray.mk #[99, 113, 112]), .string (ByteArray.mk #[104, 103, 99, 113, 112, 100, 120]), .string (ByteArray.mk #[104, 103, 99, 113, 112, 100]), .string (ByteArray.mk #[99, 113, 112, 100]), .string (ByteArray.mk #[98, 115])] 9)) w1.heap.size [(.int .i64 kind), (.int .u64 0), (.int .u64 0), (.int .i64 0), (.int .i64 0), (.int .u64 0), (.int .u64 0), (.int .u64 0), (.int .i64 0), (.slice none 0 0), (.slice none 0 0)] 32 := (NB.rw_new w1 _ 32 rfl).below (oneB (w1.alloc (.cells #[(.int .i64 kind), (.int .u64 0), (.int .u64 0), (.int .i64 0), (.int .i64 0), (.int .u64 0), (.int .u64 0), (.int .u64 0), (.int .i64 0), (.slice none 0 0), (.slice none 0 0)] 32)) _)
  have z2 : (w1.alloc (.cells #[(.int .i64 kind), (.int .u64 0), (.int .u64 0), (.int .i64 0), (.int .i64 0), (.int .u64 0), (.int .u64 0), (.int .u64 0), (.int .i64 0), (.slice none 0 0), (.slice none 0 0)] 32)).heap.size = w1.heap.size + 1 := by simp
  have c5 := R3.cell 5 _ rfl
  have f5 := R3.free 5
  have B5 : Below w.heap.size w ((w1.alloc (.cells #[(.int .i64 kind), (.int .u64 0), (.int .u64 0), (.int .i64 0), (.int .i64 0), (.int .u64 1), (.int .u64 0), (.int .u64 0), (.int .i64 0), (.slice none 0 0), (.slice none 0 0)] 32)).alloc (.cells #[.string (ByteArray.mk #[]), .string (ByteArray.mk #[104, 103, 99, 113, 120]), .string (ByteArray.mk #[104, 103, 99, 113, 112, 100]), .string (ByteArray.mk #[104, 103, 99, 113, 112, 120]), .string (ByteArray.mk #[104, 103, 112]), .string (ByteArray.mk #[104, 103, 112]), .string (ByteArray.mk #[104, 103, 118]), .string (ByteArray.mk #[98, 115]), .string (ByteArray.mk #[98, 115, 120]), .string (ByteArray.mk #[98, 115, 120]), .string (ByteArray.mk #[98, 115]), .string (ByteArray.mk #[98]), .string (ByteArray.mk #[115, 120]), .string (ByteArray.mk #[115]), .string (ByteArray.mk #[99, 113, 112]), .string (ByteArray.mk #[104, 103, 99, 113, 112, 100, 120]), .string (ByteArray.mk #[104, 103, 99, 113, 112, 100]), .string (ByteArray.mk #[99, 113, 112, 100]), .string (ByteArray.mk #[98, 115])] 9)) := NB.bel (NB.bel hb1 (oneB w1 _) hb1.size) (oneB (w1.alloc (.cells #[(.int .i64 kind), (.int .u64 0), (.int .u64 0), (.int .i64 0), (.int .i64 0), (.int .u64 1), (.int .u64 0), (.int .u64 0), (.int .i64 0), (.slice none 0 0), (.slice none 0 0)] 32)) _) (NB.bel hb1 (oneB w1 _) hb1.size).size
  have R5 : Rw ((w1.alloc (.cells #[(.int .i64 kind), (.int .u64 0), (.int .u64 0), (.int .i64 0), (.int .i64 0), (.int .u64 1), (.int .u64 0), (.int .u64 0), (.int .i64 0), (.slice none 0 0), (.slice none 0 0)] 32)).alloc (.cells #[.string (ByteArray.mk #[]), .string (ByteArray.mk #[104, 103, 99, 113, 120]), .string (ByteArray.mk #[104, 103, 99, 113, 112, 100]), .string (ByteArray.mk #[104, 103, 99, 113, 112, 120]), .string (ByteArray.mk #[104, 103, 112]), .string (ByteArray.mk #[104, 103, 112]), .string (ByteArray.mk #[104, 103, 118]), .string (ByteArray.mk #[98, 115]), .string (ByteArray.mk #[98, 115, 120]), .string (ByteArray.mk #[98, 115, 120]), .string (ByteArray.mk #[98, 115]), .string (ByteArray.mk #[98]), .string (ByteArray.mk #[115, 120]), .string (ByteArray.mk #[115]), .string (ByteArray.mk #[99, 113, 112]), .string (ByteArray.mk #[104, 103, 99, 113, 112, 100, 120]), .string (ByteArray.mk #[104, 103, 99, 113, 112, 100]), .string (ByteArray.mk #[99, 113, 112, 100]), .string (ByteArray.mk #[98, 115])] 9)) w1.heap.size [(.int .i64 kind), (.int .u64 0), (.int .u64 0), (.int .i64 0), (.int .i64 0), (.int .u64 1), (.int .u64 0), (.int .u64 0), (.int .i64 0), (.slice none 0 0), (.slice none 0 0)] 32 := (NB.rw_new w1 _ 32 rfl).below (oneB (w1.alloc (.cells #[(.int .i64 kind), (.int .u64 0), (.int .u64 0), (.int .i64 0), (.int .i64 0), (.int .u64 1), (.int .u64 0), (.int .u64 0), (.int .i64 0), (.slice none 0 0), (.slice none 0 0)] 32)) _)
  have hT5 := HT.out.grow B5
  have l5 := R5.lt
  clear R3 B2 B3 hb1 hT1
  go_wp2_with fail
  go_loopw [10, 11] (fun x y wr => x = .bool false ∧ y = .int .i64 0 ∧ Below w.heap.size w wr ∧ Rw wr w1.heap.size [(.int .i64 kind), (.int .u64 0), (.int .u64 0), (.int .i64 0), (.int .i64 0), (.int .u64 1), (.int .u64 0), (.int .u64 0), (.int .i64 0), (.slice none 0 0), (.slice none 0 0)] 32) (fun _ _ _ => 0)
  case atStart => exact ⟨rfl, rfl, B5, R5⟩
  case round =>
    obtain ⟨rfl, rfl, BR, RR⟩ := hrel
    clear B5 R5 hT5 hm
    have e0 := RR.cell 0 _ rfl
    have e1 := RR.cell 1 _ rfl
    have e2 := RR.cell 2 _ rfl
    have e3 := RR.cell 3 _ rfl
    have e4 := RR.cell 4 _ rfl
    have e5 := RR.cell 5 _ rfl
    have e6 := RR.cell 6 _ rfl
    have e7 := RR.cell 7 _ rfl
    have e8 := RR.cell 8 _ rfl
    have e9 := RR.cell 9 _ rfl
    have e10 := RR.cell 10 _ rfl
    go_wp2_with fail
    refine (CK.out _ (HT.out.grow BR) none 0 none 0).mono ?_
    rintro e w9 ⟨rfl, hb9⟩
    have B9 := NB.bel BR hb9 BR.size
    go_wp2_with fail
    go_ret
    exact ⟨rfl, B9⟩

set_option maxRecDepth 100000 in
set_option maxHeartbeats 4000000 in
theorem kinds_A15 (w : World) (hT : Tb w) (kind wh : Int) (hw0 : 0 ≤ wh) (hw1 : wh < 256) (hm : wh % 10 = 5) (V : Bool) (S : List UInt8) (hS : S.length ≤ 7) (hk : ¬ 1 ≤ kind) (hSA : S = [])
    (hV : S.any (· == ltr.getD 5 0) = V) (hC : mcheckM (mK kind 5) = if V = true then 0 else 1) :
    Calls Tryd.prog 6 #[.int .i64 kind, .int .u8 wh] w fun e w' => e = .returned (.bool true) ∧ Below w.heap.size w w' := by
  have HT := Go.Lib.hid hT
  have HV := Go.Lib.hid hV
  have CK0 := fun W hT av cv ab cb => mcheck_any W hT (mK kind 5) av cv ab cb
  rw [hC] at CK0
  subst hSA
  obtain rfl : V = false := HV.out.symm
  simp only [Bool.false_eq_true, if_false, reduceIte] at CK0
  have CK := Go.Lib.hid CK0
  clear hT hV CK0 hC
  unfold msgV mK mm0 at CK
  simp only [List.toArray, List.length_nil, List.length_cons] at CK
  go_enter Tryd.func6, Tryd.ntmps6
  go_wp2_with fail
  refine (mawake_any _ HT.out).mono ?_
  rintro e w1 ⟨rfl, hb1⟩
  have hT1 := HT.out.grow hb1
  have B2 : Below w.heap.size w (w1.alloc (.cells #[(.int .i64 kind), (.int .u64 0), (.int .u64 0), (.int .i64 0), (.int .i64 0), (.int .u64 0), (.int .u64 0), (.int .u64 0), (.int .i64 0), (.slice none 0 0), (.slice none 0 0)] 32)) := NB.bel hb1 (oneB w1 _) hb1.size
  have B3 : Below w.heap.size w ((w1.alloc (.cells #[(.int .i64 kind), (.int .u64 0), (.int .u64 0), (.int .i64 0), (.int .i64 0), (.int .u64 0), (.int .u64 0), (.int .u64 0), (.int .i64 0), (.slice none 0 0), (.slice none 0 0)] 32)).alloc (.cells #[.string (ByteArray.mk #[]), .string (ByteArray.mk #[104, 103, 99, 113, 120]), .string (ByteArray.mk #[104, 103, 99, 113, 112, 100]), .string (ByteArray.mk #[104, 103, 99, 113, 112, 120]), .string (ByteArray.mk #[104, 103, 112]), .string (ByteArray.mk #[104, 103, 112]), .string (ByteArray.mk #[104, 103, 118]), .string (ByteArray.mk #[98, 115]), .string (ByteArray.mk #[98, 115, 120]), .string (ByteArray.mk #[98, 115, 120]), .string (ByteArray.mk #[98, 115]), .string (ByteArray.mk #[98]), .string (ByteArray.mk #[115, 120]), .string (ByteArray.mk #[115]), .string (ByteArray.mk #[99, 113, 112]), .string (ByteArray.mk #[104, 103, 99, 113, 112, 100, 120]), .string (ByteArray.mk #[104, 103, 99, 113, 112, 100]), .string (ByteArray.mk #[99, 113, 112, 100]), .string (ByteArray.mk #[98, 115])] 9)) := NB.bel B2 (oneB (w1.alloc (.cells #[(.int .i64 kind), (.int .u64 0), (.int .u64 0), (.int .i64 0), (.int .i64 0), (.int .u64 0), (.int .u64 0), (.int .u64 0), (.int .i64 0), (.slice none 0 0), (.slice none 0 0)] 32)) _) B2.size
  have R3 : Rw ((w1.alloc (.cells #[(.int .i64 kind), (.int .u64 0), (.int .u64 0), (.int .i64 0), (.int .i64 0), (.int .u64 0), (.int .u64 0), (.int .u64 0), (.int .i64 0), (.slice none 0 0), (.slice none 0 0)] 32)).alloc (.cells #[.string (ByteArray.mk #[]), .string (ByteArray.mk #[104, 103, 99, 113, 120]), .string (ByteArray.mk #[104, 103, 99, 113, 112, 100]), .string (ByteArray.mk #[104, 103, 99, 113, 112, 120]), .string (ByteArray.mk #[104, 103, 112]), .string (ByteArray.mk #[104, 103, 112]), .string (ByteArray.mk #[104, 103, 118]), .string (ByteArray.mk #[98, 115]), .string (ByteArray.mk #[98, 115, 120]), .string (ByteArray.mk #[98, 115, 120]), .string (ByteArray.mk #[98, 115]), .string (ByteArray.mk #[98]), .string (ByteArray.mk #[115, 120]), .string (ByteArray.mk #[115]), .string (ByteArray.mk #[99, 113, 112]), .string (ByteArray.mk #[104, 103, 99, 113, 112, 100, 120]), .string (ByteArray.mk #[104, 103, 99, 113, 112, 100]), .string (ByteArray.mk #[99, 113, 112, 100]), .string (ByteArray.mk #[98, 115])] 9)) w1.heap.size [(.int .i64 kind), (.int .u64 0), (.int .u64 0), (.int .i64 0), (.int .i64 0), (.int .u64 0), (.int .u64 0), (.int .u64 0), (.int .i64 0), (.slice none 0 0), (.slice none 0 0)] 32 := (NB.rw_new w1 _ 32 rfl).below (oneB (w1.alloc (.cells #[(.int .i64 kind), (.int .u64 0), (.int .u64 0), (.int .i64 0), (.int .i64 0), (.int .u64 0), (.int .u64 0), (.int .u64 0), (.int .i64 0), (.slice none 0 0), (.slice none 0 0)] 32)) _)
  have z2 : (w1.alloc (.cells #[(.int .i64 kind), (.int .u64 0), (.int .u64 0), (.int .i64 0), (.int .i64 0), (.int .u64 0), (.int .u64 0), (.int .u64 0), (.int .i64 0), (.slice none 0 0), (.slice none 0 0)] 32)).heap.size = w1.heap.size + 1 := by simp
  have c6 := R3.cell 6 _ rfl
  have f6 := R3.free 6
  have B5 : Below w.heap.size w ((w1.alloc (.cells #[(.int .i64 kind), (.int .u64 0), (.int .u64 0), (.int .i64 0), (.int .i64 0), (.int .u64 0), (.int .u64 1), (.int .u64 0), (.int .i64 0), (.slice none 0 0), (.slice none 0 0)] 32)).alloc (.cells #[.string (ByteArray.mk #[]), .string (ByteArray.mk #[104, 103, 99, 113, 120]), .string (ByteArray.mk #[104, 103, 99, 113, 112, 100]), .string (ByteArray.mk #[104, 103, 99, 113, 112, 120]), .string (ByteArray.mk #[104, 103, 112]), .string (ByteArray.mk #[104, 103, 112]), .string (ByteArray.mk #[104, 103, 118]), .string (ByteArray.mk #[98, 115]), .string (ByteArray.mk #[98, 115, 120]), .string (ByteArray.mk #[98, 115, 120]), .string (ByteArray.mk #[98, 115]), .string (ByteArray.mk #[98]), .string (ByteArray.mk #[115, 120]), .string (ByteArray.mk #[115]), .string (ByteArray.mk #[99, 113, 112]), .string (ByteArray.mk #[104, 103, 99, 113, 112, 100, 120]), .string (ByteArray.mk #[104, 103, 99, 113, 112, 100]), .string (ByteArray.mk #[99, 113, 112, 100]), .string (ByteArray.mk #[98, 115])] 9)) := NB.bel (NB.bel hb1 (oneB w1 _) hb1.size) (oneB (w1.alloc (.cells #[(.int .i64 kind), (.int .u64 0), (.int .u64 0), (.int .i64 0), (.int .i64 0), (.int .u64 0), (.int .u64 1), (.int .u64 0), (.int .i64 0), (.slice none 0 0), (.slice none 0 0)] 32)) _) (NB.bel hb1 (oneB w1 _) hb1.size).size
  have R5 : Rw ((w1.alloc (.cells #[(.int .i64 kind), (.int .u64 0), (.int .u64 0), (.int .i64 0), (.int .i64 0), (.int .u64 0), (.int .u64 1), (.int .u64 0), (.int .i64 0), (.slice none 0 0), (.slice none 0 0)] 32)).alloc (.cells #[.string (ByteArray.mk #[]), .string (ByteArray.mk #[104, 103, 99, 113, 120]), .string (ByteArray.mk #[104, 103, 99, 113, 112, 100]), .string (ByteArray.mk #[104, 103, 99, 113, 112, 120]), .string (ByteArray.mk #[104, 103, 112]), .string (ByteArray.mk #[104, 103, 112]), .string (ByteArray.mk #[104, 103, 118]), .string (ByteArray.mk #[98, 115]), .string (ByteArray.mk #[98, 115, 120]), .string (ByteArray.mk #[98, 115, 120]), .string (ByteArray.mk #[98, 115]), .string (ByteArray.mk #[98]), .string (ByteArray.mk #[115, 120]), .string (ByteArray.mk #[115]), .string (ByteArray.mk #[99, 113, 112]), .string (ByteArray.mk #[104, 103, 99, 113, 112, 100, 120]), .string (ByteArray.mk #[104, 103, 99, 113, 112, 100]), .string (ByteArray.mk #[99, 113, 112, 100]), .string (ByteArray.mk #[98, 115])] 9)) w1.heap.size [(.int .i64 kind), (.int .u64 0), (.int .u64 0), (.int .i64 0), (.int .i64 0), (.int .u64 0), (.int .u64 1), (.int .u64 0), (.int .i64 0), (.slice none 0 0), (.slice none 0 0)] 32 := (NB.rw_new w1 _ 32 rfl).below (oneB (w1.alloc (.cells #[(.int .i64 kind), (.int .u64 0), (.int .u64 0), (.int .i64 0), (.int .i64 0), (.int .u64 0), (.int .u64 1), (.int .u64 0), (.int .i64 0), (.slice none 0 0), (.slice none 0 0)] 32)) _)
  have hT5 := HT.out.grow B5
  have l5 := R5.lt
  clear R3 B2 B3 hb1 hT1
  go_wp2_with fail
  go_loopw [10, 11] (fun x y wr => x = .bool false ∧ y = .int .i64 0 ∧ Below w.heap.size w wr ∧ Rw wr w1.heap.size [(.int .i64 kind), (.int .u64 0), (.int .u64 0), (.int .i64 0), (.int .i64 0), (.int .u64 0), (.int .u64 1), (.int .u64 0), (.int .i64 0), (.slice none 0 0), (.slice none 0 0)] 32) (fun _ _ _ => 0)
  case atStart => exact ⟨rfl, rfl, B5, R5⟩
  case round =>
    obtain ⟨rfl, rfl, BR, RR⟩ := hrel
    clear B5 R5 hT5 hm
    have e0 := RR.cell 0 _ rfl
    have e1 := RR.cell 1 _ rfl
    have e2 := RR.cell 2 _ rfl
    have e3 := RR.cell 3 _ rfl
    have e4 := RR.cell 4 _ rfl
    have e5 := RR.cell 5 _ rfl
    have e6 := RR.cell 6 _ rfl
    have e7 := RR.cell 7 _ rfl
    have e8 := RR.cell 8 _ rfl
    have e9 := RR.cell 9 _ rfl
    have e10 := RR.cell 10 _ rfl
    go_wp2_with fail
    refine (CK.out _ (HT.out.grow BR) none 0 none 0).mono ?_
    rintro e w9 ⟨rfl, hb9⟩
    have B9 := NB.bel BR hb9 BR.size
    go_wp2_with fail
    go_ret
    exact ⟨rfl, B9⟩

set_option maxRecDepth 100000 in
set_option maxHeartbeats 4000000 in
theorem kinds_A16 (w : World) (hT : Tb w) (kind wh : Int) (hw0 : 0 ≤ wh) (hw1 : wh < 256) (hm : wh % 10 = 6) (V : Bool) (S : List UInt8) (hS : S.length ≤ 7) (hk : ¬ 1 ≤ kind) (hSA : S = [])
    (hV : S.any (· == ltr.getD 6 0) = V) (hC : mcheckM (mK kind 6) = if V = true then 0 else 1) :
    Calls Tryd.prog 6 #[.int .i64 kind, .int .u8 wh] w fun e w' => e = .returned (.bool true) ∧ Below w.heap.size w w' := by
  have HT := Go.Lib.hid hT
  have HV := Go.Lib.hid hV
  have CK0 := fun W hT av cv ab cb => mcheck_any W hT (mK kind 6) av cv ab cb
  rw [hC] at CK0
  subst hSA
  obtain rfl : V = false := HV.out.symm
  simp only [Bool.false_eq_true, if_false, reduceIte] at CK0
  have CK := Go.Lib.hid CK0
  clear hT hV CK0 hC
  unfold msgV mK mm0 at CK
  simp only [List.toArray, List.length_nil, List.length_cons] at CK
  go_enter Tryd.func6, Tryd.ntmps6
  go_wp2_with fail
  refine (mawake_any _ HT.out).mono ?_
  rintro e w1 ⟨rfl, hb1⟩
  have hT1 := HT.out.grow hb1
  have B2 : Below w.heap.size w (w1.alloc (.cells #[(.int .i64 kind), (.int .u64 0), (.int .u64 0), (.int .i64 0), (.int .i64 0), (.int .u64 0), (.int .u64 0), (.int .u64 0), (.int .i64 0), (.slice none 0 0), (.slice none 0 0)] 32)) := NB.bel hb1 (oneB w1 _) hb1.size
  have B3 : Below w.heap.size w ((w1.alloc (.cells #[(.int .i64 kind), (.int .u64 0), (.int .u64 0), (.int .i64 0), (.int .i64 0), (.int .u64 0), (.int .u64 0), (.int .u64 0), (.int .i64 0), (.slice none 0 0), (.slice none 0 0)] 32)).alloc (.cells #[.string (ByteArray.mk #[]), .string (ByteArray.mk #[104, 103, 99, 113, 120]), .string (ByteArray.mk #[104, 103, 99, 113, 112, 100]), .string (ByteArray.mk #[104, 103, 99, 113, 112, 120]), .string (ByteArray.mk #[104, 103, 112]), .string (ByteArray.mk #[104, 103, 112]), .string (ByteArray.mk #[104, 103, 118]), .string (ByteArray.mk #[98, 115]), .string (ByteArray.mk #[98, 115, 120]), .string (ByteArray.mk #[98, 115, 120]), .string (ByteArray.mk #[98, 115]), .string (ByteArray.mk #[98]), .string (ByteArray.mk #[115, 120]), .string (ByteArray.mk #[115]), .string (ByteArray.mk #[99, 113, 112]), .string (ByteArray.mk #[104, 103, 99, 113, 112, 100, 120]), .string (ByteArray.mk #[104, 103, 99, 113, 112, 100]), .string (ByteArray.mk #[99, 113, 112, 100]), .string (ByteArray.mk #[98, 115])] 9)) := NB.bel B2 (oneB (w1.alloc (.cells #[(.int .i64 kind), (.int .u64 0), (.int .u64 0), (.int .i64 0), (.int .i64 0), (.int .u64 0), (.int .u64 0), (.int .u64 0), (.int .i64 0), (.slice none 0 0), (.slice none 0 0)] 32)) _) B2.size
  have R3 : Rw ((w1.alloc (.cells #[(.int .i64 kind), (.int .u64 0), (.int .u64 0), (.int .i64 0), (.int .i64 0), (.int .u64 0), (.int .u64 0), (.int .u64 0), (.int .i64 0), (.slice none 0 0), (.slice none 0 0)] 32)).alloc (.cells #[.string (ByteArray.mk #[]), .string (ByteArray.mk #[104, 103, 99, 113, 120]), .string (ByteArray.mk #[104, 103, 99, 113, 112, 100]), .string (ByteArray.mk #[104, 103, 99, 113, 112, 120]), .string (ByteArray.mk #[104, 103, 112]), .string (ByteArray.mk #[104, 103, 112]), .string (ByteArray.mk #[104, 103, 118]), .string (ByteArray.mk #[98, 115]), .string (ByteArray.mk #[98, 115, 120]), .string (ByteArray.mk #[98, 115, 120]), .string (ByteArray.mk #[98, 115]), .string (ByteArray.mk #[98]), .string (ByteArray.mk #[115, 120]), .string (ByteArray.mk #[115]), .string (ByteArray.mk #[99, 113, 112]), .string (ByteArray.mk #[104, 103, 99, 113, 112, 100, 120]), .string (ByteArray.mk #[104, 103, 99, 113, 112, 100]), .string (ByteArray.mk #[99, 113, 112, 100]), .string (ByteArray.mk #[98, 115])] 9)) w1.heap.size [(.int .i64 kind), (.int .u64 0), (.int .u64 0), (.int .i64 0), (.int .i64 0), (.int .u64 0), (.int .u64 0), (.int .u64 0), (.int .i64 0), (.slice none 0 0), (.slice none 0 0)] 32 := (NB.rw_new w1 _ 32 rfl).below (oneB (w1.alloc (.cells #[(.int .i64 kind), (.int .u64 0), (.int .u64 0), (.int .i64 0), (.int .i64 0), (.int .u64 0), (.int .u64 0), (.int .u64 0), (.int .i64 0), (.slice none 0 0), (.slice none 0 0)] 32)) _)
  have z2 : (w1.alloc (.cells #[(.int .i64 kind), (.int .u64 0), (.int .u64 0), (.int .i64 0), (.int .i64 0), (.int .u64 0), (.int .u64 0), (.int .u64 0), (.int .i64 0), (.slice none 0 0), (.slice none 0 0)] 32)).heap.size = w1.heap.size + 1 := by simp
  have c7 := R3.cell 7 _ rfl
  have f7 := R3.free 7
  have B5 : Below w.heap.size w ((w1.alloc (.cells #[(.int .i64 kind), (.int .u64 0), (.int .u64 0), (.int .i64 0), (.int .i64 0), (.int .u64 0), (.int .u64 0), (.int .u64 1), (.int .i64 0), (.slice none 0 0), (.slice none 0 0)] 32)).alloc (.cells #[.string (ByteArray.mk #[]), .string (ByteArray.mk #[104, 103, 99, 113, 120]), .string (ByteArray.mk #[104, 103, 99, 113, 112, 100]), .string (ByteArray.mk #[104, 103, 99, 113, 112, 120]), .string (ByteArray.mk #[104, 103, 112]), .string (ByteArray.mk #[104, 103, 112]), .string (ByteArray.mk #[104, 103, 118]), .string (ByteArray.mk #[98, 115]), .string (ByteArray.mk #[98, 115, 120]), .string (ByteArray.mk #[98, 115, 120]), .string (ByteArray.mk #[98, 115]), .string (ByteArray.mk #[98]), .string (ByteArray.mk #[115, 120]), .string (ByteArray.mk #[115]), .string (ByteArray.mk #[99, 113, 112]), .string (ByteArray.mk #[104, 103, 99, 113, 112, 100, 120]), .string (ByteArray.mk #[104, 103, 99, 113, 112, 100]), .string (ByteArray.mk #[99, 113, 112, 100]), .string (ByteArray.mk #[98, 115])] 9)) := NB.bel (NB.bel hb1 (oneB w1 _) hb1.size) (oneB (w1.alloc (.cells #[(.int .i64 kind), (.int .u64 0), (.int .u64 0), (.int .i64 0), (.int .i64 0), (.int .u64 0), (.int .u64 0), (.int .u64 1), (.int .i64 0), (.slice none 0 0), (.slice none 0 0)] 32)) _) (NB.bel hb1 (oneB w1 _) hb1.size).size
  have R5 : Rw ((w1.alloc (.cells #[(.int .i64 kind), (.int .u64 0), (.int .u64 0), (.int .i64 0), (.int .i64 0), (.int .u64 0), (.int .u64 0), (.int .u64 1), (.int .i64 0), (.slice none 0 0), (.slice none 0 0)] 32)).alloc (.cells #[.string (ByteArray.mk #[]), .string (ByteArray.mk #[104, 103, 99, 113, 120]), .string (ByteArray.mk #[104, 103, 99, 113, 112, 100]), .string (ByteArray.mk #[104, 103, 99, 113, 112, 120]), .string (ByteArray.mk #[104, 103, 112]), .string (ByteArray.mk #[104, 103, 112]), .string (ByteArray.mk #[104, 103, 118]), .string (ByteArray.mk #[98, 115]), .string (ByteArray.mk #[98, 115, 120]), .string (ByteArray.mk #[98, 115, 120]), .string (ByteArray.mk #[98, 115]), .string (ByteArray.mk #[98]), .string (ByteArray.mk #[115, 120]), .string (ByteArray.mk #[115]), .string (ByteArray.mk #[99, 113, 112]), .string (ByteArray.mk #[104, 103, 99, 113, 112, 100, 120]), .string (ByteArray.mk #[104, 103, 99, 113, 112, 100]), .string (ByteArray.mk #[99, 113, 112, 100]), .string (ByteArray.mk #[98, 115])] 9)) w1.heap.size [(.int .i64 kind), (.int .u64 0), (.int .u64 0), (.int .i64 0), (.int .i64 0), (.int .u64 0), (.int .u64 0), (.int .u64 1), (.int .i64 0), (.slice none 0 0), (.slice none 0 0)] 32 := (NB.rw_new w1 _ 32 rfl).below (oneB (w1.alloc (.cells #[(.int .i64 kind), (.int .u64 0), (.int .u64 0), (.int .i64 0), (.int .i64 0), (.int .u64 0), (.int .u64 0), (.int .u64 1), (.int .i64 0), (.slice none 0 0), (.slice none 0 0)] 32)) _)
  have hT5 := HT.out.grow B5
  have l5 := R5.lt
  clear R3 B2 B3 hb1 hT1
  go_wp2_with fail
  go_loopw [10, 11] (fun x y wr => x = .bool false ∧ y = .int .i64 0 ∧ Below w.heap.size w wr ∧ Rw wr w1.heap.size [(.int .i64 kind), (.int .u64 0), (.int .u64 0), (.int .i64 0), (.int .i64 0), (.int .u64 0), (.int .u64 0), (.int .u64 1), (.int .i64 0), (.slice none 0 0), (.slice none 0 0)] 32) (fun _ _ _ => 0)
  case atStart => exact ⟨rfl, rfl, B5, R5⟩
  case round =>
    obtain ⟨rfl, rfl, BR, RR⟩ := hrel
    clear B5 R5 hT5 hm
    have e0 := RR.cell 0 _ rfl
    have e1 := RR.cell 1 _ rfl
    have e2 := RR.cell 2 _ rfl
    have e3 := RR.cell 3 _ rfl
    have e4 := RR.cell 4 _ rfl
    have e5 := RR.cell 5 _ rfl
    have e6 := RR.cell 6 _ rfl
    have e7 := RR.cell 7 _ rfl
    have e8 := RR.cell 8 _ rfl
    have e9 := RR.cell 9 _ rfl
    have e10 := RR.cell 10 _ rfl
    go_wp2_with fail
    refine (CK.out _ (HT.out.grow BR) none 0 none 0).mono ?_
    rintro e w9 ⟨rfl, hb9⟩
    have B9 := NB.bel BR hb9 BR.size
    go_wp2_with fail
    go_ret
    exact ⟨rfl, B9⟩

set_option maxRecDepth 100000 in
set_option maxHeartbeats 4000000 in
theorem kinds_A17 (w : World) (hT : Tb w) (kind wh : Int) (hw0 : 0 ≤ wh) (hw1 : wh < 256) (hm : wh % 10 = 7) (V : Bool) (S : List UInt8) (hS : S.length ≤ 7) (hk : ¬ 1 ≤ kind) (hSA : S = [])
    (hV : S.any (· == ltr.getD 7 0) = V) (hC : mcheckM (mK kind 7) = if V = true then 0 else 1) :
    Calls Tryd.prog 6 #[.int .i64 kind, .int .u8 wh] w fun e w' => e = .returned (.bool true) ∧ Below w.heap.size w w' := by
  have HT := Go.Lib.hid hT
  have HV := Go.Lib.hid hV
  have CK0 := fun W hT av cv ab cb => mcheck_any W hT (mK kind 7) av cv ab cb
  rw [hC] at CK0
  subst hSA
  obtain rfl : V = false := HV.out.symm
  simp only [Bool.false_eq_true, if_false, reduceIte] at CK0
  have CK := Go.Lib.hid CK0
  clear hT hV CK0 hC
  unfold msgV mK mm0 at CK
  simp only [List.toArray, List.length_nil, List.length_cons] at CK
  go_enter Tryd.func6, Tryd.ntmps6
  go_wp2_with fail
  refine (mawake_any _ HT.out).mono ?_
  rintro e w1 ⟨rfl, hb1⟩
  have hT1 := HT.out.grow hb1
  have B2 : Below w.heap.size w (w1.alloc (.cells #[(.int .i64 kind), (.int .u64 0), (.int .u64 0), (.int .i64 0), (.int .i64 0), (.int .u64 0), (.int .u64 0), (.int .u64 0), (.int .i64 0), (.slice none 0 0), (.slice none 0 0)] 32)) := NB.bel hb1 (oneB w1 _) hb1.size
  have B3 : Below w.heap.size w ((w1.alloc (.cells #[(.int .i64 kind), (.int .u64 0), (.int .u64 0), (.int .i64 0), (.int .i64 0), (.int .u64 0), (.int .u64 0), (.int .u64 0), (.int .i64 0), (.slice none 0 0), (.slice none 0 0)] 32)).alloc (.cells #[.string (ByteArray.mk #[]), .string (ByteArray.mk #[104, 103, 99, 113, 120]), .string (ByteArray.mk #[104, 103, 99, 113, 112, 100]), .string (ByteArray.mk #[104, 103, 99, 113, 112, 120]), .string (ByteArray.mk #[104, 103, 112]), .string (ByteArray.mk #[104, 103, 112]), .string (ByteArray.mk #[104, 103, 118]), .string (ByteArray.mk #[98, 115]), .string (ByteArray.mk #[98, 115, 120]), .string (ByteArray.mk #[98, 115, 120]), .string (ByteArray.mk #[98, 115]), .string (ByteArray.mk #[98]), .string (ByteArray.mk #[115, 120]), .string (ByteArray.mk #[115]), .string (ByteArray.mk #[99, 113, 112]), .string (ByteArray.mk #[104, 103, 99, 113, 112, 100, 120]), .string (ByteArray.mk #[104, 103, 99, 113, 112, 100]), .string (ByteArray.mk #[99, 113, 112, 100]), .string (ByteArray.mk #[98, 115])] 9)) := NB.bel B2 (oneB (w1.alloc (.cells #[(.int .i64 kind), (.int .u64 0), (.int .u64 0), (.int .i64 0), (.int .i64 0), (.int .u64 0), (.int .u64 0), (.int .u64 0), (.int .i64 0), (.slice none 0 0), (.slice none 0 0)] 32)) _) B2.size
  have R3 : Rw ((w1.alloc (.cells #[(.int .i64 kind), (.int .u64 0), (.int .u64 0), (.int .i64 0), (.int .i64 0), (.int .u64 0), (.int .u64 0), (.int .u64 0), (.int .i64 0), (.slice none 0 0), (.slice none 0 0)] 32)).alloc (.cells #[.string (ByteArray.mk #[]), .string (ByteArray.mk #[104, 103, 99, 113, 120]), .string (ByteArray.mk #[104, 103, 99, 113, 112, 100]), .string (ByteArray.mk #[104, 103, 99, 113, 112, 120]), .string (ByteArray.mk #[104, 103, 112]), .string (ByteArray.mk #[104, 103, 112]), .string (ByteArray.mk #[104, 103, 118]), .string (ByteArray.mk #[98, 115]), .string (ByteArray.mk #[98, 115, 120]), .string (ByteArray.mk #[98, 115, 120]), .string (ByteArray.mk #[98, 115]), .string (ByteArray.mk #[98]), .string (ByteArray.mk #[115, 120]), .string (ByteArray.mk #[115]), .string (ByteArray.mk #[99, 113, 112]), .string (ByteArray.mk #[104, 103, 99, 113, 112, 100, 120]), .string (ByteArray.mk #[104, 103, 99, 113, 112, 100]), .string (ByteArray.mk #[99, 113, 112, 100]), .string (ByteArray.mk #[98, 115])] 9)) w1.heap.size [(.int .i64 kind), (.int .u64 0), (.int .u64 0), (.int .i64 0), (.int .i64 0), (.int .u64 0), (.int .u64 0), (.int .u64 0), (.int .i64 0), (.slice none 0 0), (.slice none 0 0)] 32 := (NB.rw_new w1 _ 32 rfl).below (oneB (w1.alloc (.cells #[(.int .i64 kind), (.int .u64 0), (.int .u64 0), (.int .i64 0), (.int .i64 0), (.int .u64 0), (.int .u64 0), (.int .u64 0), (.int .i64 0), (.slice none 0 0), (.slice none 0 0)] 32)) _)
  have z2 : (w1.alloc (.cells #[(.int .i64 kind), (.int .u64 0), (.int .u64 0), (.int .i64 0), (.int .i64 0), (.int .u64 0), (.int .u64 0), (.int .u64 0), (.int .i64 0), (.slice none 0 0), (.slice none 0 0)] 32)).heap.size = w1.heap.size + 1 := by simp
  have c8 := R3.cell 8 _ rfl
  have f8 := R3.free 8
  have B5 : Below w.heap.size w ((w1.alloc (.cells #[(.int .i64 kind), (.int .u64 0), (.int .u64 0), (.int .i64 0), (.int .i64 0), (.int .u64 0), (.int .u64 0), (.int .u64 0), (.int .i64 1), (.slice none 0 0), (.slice none 0 0)] 32)).alloc (.cells #[.string (ByteArray.mk #[]), .string (ByteArray.mk #[104, 103, 99, 113, 120]), .string (ByteArray.mk #[104, 103, 99, 113, 112, 100]), .string (ByteArray.mk #[104, 103, 99, 113, 112, 120]), .string (ByteArray.mk #[104, 103, 112]), .string (ByteArray.mk #[104, 103, 112]), .string (ByteArray.mk #[104, 103, 118]), .string (ByteArray.mk #[98, 115]), .string (ByteArray.mk #[98, 115, 120]), .string (ByteArray.mk #[98, 115, 120]), .string (ByteArray.mk #[98, 115]), .string (ByteArray.mk #[98]), .string (ByteArray.mk #[115, 120]), .string (ByteArray.mk #[115]), .string (ByteArray.mk #[99, 113, 112]), .string (ByteArray.mk #[104, 103, 99, 113, 112, 100, 120]), .string (ByteArray.mk #[104, 103, 99, 113, 112, 100]), .string (ByteArray.mk #[99, 113, 112, 100]), .string (ByteArray.mk #[98, 115])] 9)) := NB.bel (NB.bel hb1 (oneB w1 _) hb1.size) (oneB (w1.alloc (.cells #[(.int .i64 kind), (.int .u64 0), (.int .u64 0), (.int .i64 0), (.int .i64 0), (.int .u64 0), (.int .u64 0), (.int .u64 0), (.int .i64 1), (.slice none 0 0), (.slice none 0 0)] 32)) _) (NB.bel hb1 (oneB w1 _) hb1.size).size
  have R5 : Rw ((w1.alloc (.cells #[(.int .i64 kind), (.int .u64 0), (.int .u64 0), (.int .i64 0), (.int .i64 0), (.int .u64 0), (.int .u64 0), (.int .u64 0), (.int .i64 1), (.slice none 0 0), (.slice none 0 0)] 32)).alloc (.cells #[.string (ByteArray.mk #[]), .string (ByteArray.mk #[104, 103, 99, 113, 120]), .string (ByteArray.mk #[104, 103, 99, 113, 112, 100]), .string (ByteArray.mk #[104, 103, 99, 113, 112, 120]), .string (ByteArray.mk #[104, 103, 112]), .string (ByteArray.mk #[104, 103, 112]), .string (ByteArray.mk #[104, 103, 118]), .string (ByteArray.mk #[98, 115]), .string (ByteArray.mk #[98, 115, 120]), .string (ByteArray.mk #[98, 115, 120]), .string (ByteArray.mk #[98, 115]), .string (ByteArray.mk #[98]), .string (ByteArray.mk #[115, 120]), .string (ByteArray.mk #[115]), .string (ByteArray.mk #[99, 113, 112]), .string (ByteArray.mk #[104, 103, 99, 113, 112, 100, 120]), .string (ByteArray.mk #[104, 103, 99, 113, 112, 100]), .string (ByteArray.mk #[99, 113, 112, 100]), .string (ByteArray.mk #[98, 115])] 9)) w1.heap.size [(.int .i64 kind), (.int .u64 0), (.int .u64 0), (.int .i64 0), (.int .i64 0), (.int .u64 0), (.int .u64 0), (.int .u64 0), (.int .i64 1), (.slice none 0 0), (.slice none 0 0)] 32 := (NB.rw_new w1 _ 32 rfl).below (oneB (w1.alloc (.cells #[(.int .i64 kind), (.int .u64 0), (.int .u64 0), (.int .i64 0), (.int .i64 0), (.int .u64 0), (.int .u64 0), (.int .u64 0), (.int .i64 1), (.slice none 0 0), (.slice none 0 0)] 32)) _)
  have hT5 := HT.out.grow B5
  have l5 := R5.lt
  clear R3 B2 B3 hb1 hT1
  go_wp2_with fail
  go_loopw [10, 11] (fun x y wr => x = .bool false ∧ y = .int .i64 0 ∧ Below w.heap.size w wr ∧ Rw wr w1.heap.size [(.int .i64 kind), (.int .u64 0), (.int .u64 0), (.int .i64 0), (.int .i64 0), (.int .u64 0), (.int .u64 0), (.int .u64 0), (.int .i64 1), (.slice none 0 0), (.slice none 0 0)] 32) (fun _ _ _ => 0)
  case atStart => exact ⟨rfl, rfl, B5, R5⟩
  case round =>
    obtain ⟨rfl, rfl, BR, RR⟩ := hrel
    clear B5 R5 hT5 hm
    have e0 := RR.cell 0 _ rfl
    have e1 := RR.cell 1 _ rfl
    have e2 := RR.cell 2 _ rfl
    have e3 := RR.cell 3 _ rfl
    have e4 := RR.cell 4 _ rfl
    have e5 := RR.cell 5 _ rfl
    have e6 := RR.cell 6 _ rfl
    have e7 := RR.cell 7 _ rfl
    have e8 := RR.cell 8 _ rfl
    have e9 := RR.cell 9 _ rfl
    have e10 := RR.cell 10 _ rfl
    go_wp2_with fail
    refine (CK.out _ (HT.out.grow BR) none 0 none 0).mono ?_
    rintro e w9 ⟨rfl, hb9⟩
    have B9 := NB.bel BR hb9 BR.size
    go_wp2_with fail
    go_ret
    exact ⟨rfl, B9⟩

set_option maxRecDepth 100000 in
set_option maxHeartbeats 4000000 in
theorem kinds_A18 (w : World) (hT : Tb w) (kind wh : Int) (hw0 : 0 ≤ wh) (hw1 : wh < 256) (hm : wh % 10 = 8) (V : Bool) (S : List UInt8) (hS : S.length ≤ 7) (hk : ¬ 1 ≤ kind) (hSA : S = [])
    (hV : S.any (· == ltr.getD 8 0) = V) (hC : mcheckM (mK kind 8) = if V = true then 0 else 1) :
    Calls Tryd.prog 6 #[.int .i64 kind, .int .u8 wh] w fun e w' => e = .returned (.bool true) ∧ Below w.heap.size w w' := by
  have HT := Go.Lib.hid hT
  have HV := Go.Lib.hid hV
  have CK0 := fun W hT av cv ab cb => mcheck_any W hT (mK kind 8) av cv ab cb
  rw [hC] at CK0
  subst hSA
  obtain rfl : V = false := HV.out.symm
  simp only [Bool.false_eq_true, if_false, reduceIte] at CK0
  have CK := Go.Lib.hid CK0
  clear hT hV CK0 hC
  unfold msgV mK mm0 at CK
  simp only [List.toArray, List.length_nil, List.length_cons] at CK
  go_enter Tryd.func6, Tryd.ntmps6
  go_wp2_with fail
  refine (mawake_any _ HT.out).mono ?_
  rintro e w1 ⟨rfl, hb1⟩
  have hT1 := HT.out.grow hb1
  have B2 : Below w.heap.size w (w1.alloc (.cells #[(.int .i64 kind), (.int .u64 0), (.int .u64 0), (.int .i64 0), (.int .i64 0), (.int .u64 0), (.int .u64 0), (.int .u64 0), (.int .i64 0), (.slice none 0 0), (.slice none 0 0)] 32)) := NB.bel hb1 (oneB w1 _) hb1.size
  have B3 : Below w.heap.size w ((w1.alloc (.cells #[(.int .i64 kind), (.int .u64 0), (.int .u64 0), (.int .i64 0), (.int .i64 0), (.int .u64 0), (.int .u64 0), (.int .u64 0), (.int .i64 0), (.slice none 0 0), (.slice none 0 0)] 32)).alloc (.cells #[.string (ByteArray.mk #[]), .string (ByteArray.mk #[104, 103, 99, 113, 120]), .string (ByteArray.mk #[104, 103, 99, 113, 112, 100]), .string (ByteArray.mk #[104, 103, 99, 113, 112, 120]), .string (ByteArray.mk #[104, 103, 112]), .string (ByteArray.mk #[104, 103, 112]), .string (ByteArray.mk #[104, 103, 118]), .string (ByteArray.mk #[98, 115]), .string (ByteArray.mk #[98, 115, 120]), .string (ByteArray.mk #[98, 115, 120]), .string (ByteArray.mk #[98, 115]), .string (ByteArray.mk #[98]), .string (ByteArray.mk #[115, 120]), .string (ByteArray.mk #[115]), .string (ByteArray.mk #[99, 113, 112]), .string (ByteArray.mk #[104, 103, 99, 113, 112, 100, 120]), .string (ByteArray.mk #[104, 103, 99, 113, 112, 100]), .string (ByteArray.mk #[99, 113, 112, 100]), .string (ByteArray.mk #[98, 115])] 9)) := NB.bel B2 (oneB (w1.alloc (.cells #[(.int .i64 kind), (.int .u64 0), (.int .u64 0), (.int .i64 0), (.int .i64 0), (.int .u64 0), (.int .u64 0), (.int .u64 0), (.int .i64 0), (.slice none 0 0), (.slice none 0 0)] 32)) _) B2.size
  have R3 : Rw ((w1.alloc (.cells #[(.int .i64 kind), (.int .u64 0), (.int .u64 0), (.int .i64 0), (.int .i64 0), (.int .u64 0), (.int .u64 0), (.int .u64 0), (.int .i64 0), (.slice none 0 0), (.slice none 0 0)] 32)).alloc (.cells #[.string (ByteArray.mk #[]), .string (ByteArray.mk #[104, 103, 99, 113, 120]), .string (ByteArray.mk #[104, 103, 99, 113, 112, 100]), .string (ByteArray.mk #[104, 103, 99, 113, 112, 120]), .string (ByteArray.mk #[104, 103, 112]), .string (ByteArray.mk #[104, 103, 112]), .string (ByteArray.mk #[104, 103, 118]), .string (ByteArray.mk #[98, 115]), .string (ByteArray.mk #[98, 115, 120]), .string (ByteArray.mk #[98, 115, 120]), .string (ByteArray.mk #[98, 115]), .string (ByteArray.mk #[98]), .string (ByteArray.mk #[115, 120]), .string (ByteArray.mk #[115]), .string (ByteArray.mk #[99, 113, 112]), .string (ByteArray.mk #[104, 103, 99, 113, 112, 100, 120]), .string (ByteArray.mk #[104, 103, 99, 113, 112, 100]), .string (ByteArray.mk #[99, 113, 112, 100]), .string (ByteArray.mk #[98, 115])] 9)) w1.heap.size [(.int .i64 kind), (.int .u64 0), (.int .u64 0), (.int .i64 0), (.int .i64 0), (.int .u64 0), (.int .u64 0), (.int .u64 0), (.int .i64 0), (.slice none 0 0), (.slice none 0 0)] 32 := (NB.rw_new w1 _ 32 rfl).below (oneB (w1.alloc (.cells #[(.int .i64 kind), (.int .u64 0), (.int .u64 0), (.int .i64 0), (.int .i64 0), (.int .u64 0), (.int .u64 0), (.int .u64 0), (.int .i64 0), (.slice none 0 0), (.slice none 0 0)] 32)) _)
  have z2 : (w1.alloc (.cells #[(.int .i64 kind), (.int .u64 0), (.int .u64 0), (.int .i64 0), (.int .i64 0), (.int .u64 0), (.int .u64 0), (.int .u64 0), (.int .i64 0), (.slice none 0 0), (.slice none 0 0)] 32)).heap.size = w1.heap.size + 1 := by simp
  have B4 : Below w.heap.size w (((w1.alloc (.cells #[(.int .i64 kind), (.int .u64 0), (.int .u64 0), (.int .i64 0), (.int .i64 0), (.int .u64 0), (.int .u64 0), (.int .u64 0), (.int .i64 0), (.slice none 0 0), (.slice none 0 0)] 32)).alloc (.cells #[.string (ByteArray.mk #[]), .string (ByteArray.mk #[104, 103, 99, 113, 120]), .string (ByteArray.mk #[104, 103, 99, 113, 112, 100]), .string (ByteArray.mk #[104, 103, 99, 113, 112, 120]), .string (ByteArray.mk #[104, 103, 112]), .string (ByteArray.mk #[104, 103, 112]), .string (ByteArray.mk #[104, 103, 118]), .string (ByteArray.mk #[98, 115]), .string (ByteArray.mk #[98, 115, 120]), .string (ByteArray.mk #[98, 115, 120]), .string (ByteArray.mk #[98, 115]), .string (ByteArray.mk #[98]), .string (ByteArray.mk #[115, 120]), .string (ByteArray.mk #[115]), .string (ByteArray.mk #[99, 113, 112]), .string (ByteArray.mk #[104, 103, 99, 113, 112, 100, 120]), .string (ByteArray.mk #[104, 103, 99, 113, 112, 100]), .string (ByteArray.mk #[99, 113, 112, 100]), .string (ByteArray.mk #[98, 115])] 9)).alloc (.cells #[.int .u64 0] 29)) := NB.bel B3 (oneB ((w1.alloc (.cells #[(.int .i64 kind), (.int .u64 0), (.int .u64 0), (.int .i64 0), (.int .i64 0), (.int .u64 0), (.int .u64 0), (.int .u64 0), (.int .i64 0), (.slice none 0 0), (.slice none 0 0)] 32)).alloc (.cells #[.string (ByteArray.mk #[]), .string (ByteArray.mk #[104, 103, 99, 113, 120]), .string (ByteArray.mk #[104, 103, 99, 113, 112, 100]), .string (ByteArray.mk #[104, 103, 99, 113, 112, 120]), .string (ByteArray.mk #[104, 103, 112]), .string (ByteArray.mk #[104, 103, 112]), .string (ByteArray.mk #[104, 103, 118]), .string (ByteArray.mk #[98, 115]), .string (ByteArray.mk #[98, 115, 120]), .string (ByteArray.mk #[98, 115, 120]), .string (ByteArray.mk #[98, 115]), .string (ByteArray.mk #[98]), .string (ByteArray.mk #[115, 120]), .string (ByteArray.mk #[115]), .string (ByteArray.mk #[99, 113, 112]), .string (ByteArray.mk #[104, 103, 99, 113, 112, 100, 120]), .string (ByteArray.mk #[104, 103, 99, 113, 112, 100]), .string (ByteArray.mk #[99, 113, 112, 100]), .string (ByteArray.mk #[98, 115])] 9)) _) B3.size
  have R4 : Rw (((w1.alloc (.cells #[(.int .i64 kind), (.int .u64 0), (.int .u64 0), (.int .i64 0), (.int .i64 0), (.int .u64 0), (.int .u64 0), (.int .u64 0), (.int .i64 0), (.slice none 0 0), (.slice none 0 0)] 32)).alloc (.cells #[.string (ByteArray.mk #[]), .string (ByteArray.mk #[104, 103, 99, 113, 120]), .string (ByteArray.mk #[104, 103, 99, 113, 112, 100]), .string (ByteArray.mk #[104, 103, 99, 113, 112, 120]), .string (ByteArray.mk #[104, 103, 112]), .string (ByteArray.mk #[104, 103, 112]), .string (ByteArray.mk #[104, 103, 118]), .string (ByteArray.mk #[98, 115]), .string (ByteArray.mk #[98, 115, 120]), .string (ByteArray.mk #[98, 115, 120]), .string (ByteArray.mk #[98, 115]), .string (ByteArray.mk #[98]), .string (ByteArray.mk #[115, 120]), .string (ByteArray.mk #[115]), .string (ByteArray.mk #[99, 113, 112]), .string (ByteArray.mk #[104, 103, 99, 113, 112, 100, 120]), .string (ByteArray.mk #[104, 103, 99, 113, 112, 100]), .string (ByteArray.mk #[99, 113, 112, 100]), .string (ByteArray.mk #[98, 115])] 9)).alloc (.cells #[.int .u64 0] 29)) w1.heap.size [(.int .i64 kind), (.int .u64 0), (.int .u64 0), (.int .i64 0), (.int .i64 0), (.int .u64 0), (.int .u64 0), (.int .u64 0), (.int .i64 0), (.slice none 0 0), (.slice none 0 0)] 32 := R3.below (oneB ((w1.alloc (.cells #[(.int .i64 kind), (.int .u64 0), (.int .u64 0), (.int .i64 0), (.int .i64 0), (.int .u64 0), (.int .u64 0), (.int .u64 0), (.int .i64 0), (.slice none 0 0), (.slice none 0 0)] 32)).alloc (.cells #[.string (ByteArray.mk #[]), .string (ByteArray.mk #[104, 103, 99, 113, 120]), .string (ByteArray.mk #[104, 103, 99, 113, 112, 100]), .string (ByteArray.mk #[104, 103, 99, 113, 112, 120]), .string (ByteArray.mk #[104, 103, 112]), .string (ByteArray.mk #[104, 103, 112]), .string (ByteArray.mk #[104, 103, 118]), .string (ByteArray.mk #[98, 115]), .string (ByteArray.mk #[98, 115, 120]), .string (ByteArray.mk #[98, 115, 120]), .string (ByteArray.mk #[98, 115]), .string (ByteArray.mk #[98]), .string (ByteArray.mk #[115, 120]), .string (ByteArray.mk #[115]), .string (ByteArray.mk #[99, 113, 112]), .string (ByteArray.mk #[104, 103, 99, 113, 112, 100, 120]), .string (ByteArray.mk #[104, 103, 99, 113, 112, 100]), .string (ByteArray.mk #[99, 113, 112, 100]), .string (ByteArray.mk #[98, 115])] 9)) _)
  have z4 : ((w1.alloc (.cells #[(.int .i64 kind), (.int .u64 0), (.int .u64 0), (.int .i64 0), (.int .i64 0), (.int .u64 0), (.int .u64 0), (.int .u64 0), (.int .i64 0), (.slice none 0 0), (.slice none 0 0)] 32)).alloc (.cells #[.string (ByteArray.mk #[]), .string (ByteArray.mk #[104, 103, 99, 113, 120]), .string (ByteArray.mk #[104, 103, 99, 113, 112, 100]), .string (ByteArray.mk #[104, 103, 99, 113, 112, 120]), .string (ByteArray.mk #[104, 103, 112]), .string (ByteArray.mk #[104, 103, 112]), .string (ByteArray.mk #[104, 103, 118]), .string (ByteArray.mk #[98, 115]), .string (ByteArray.mk #[98, 115, 120]), .string (ByteArray.mk #[98, 115, 120]), .string (ByteArray.mk #[98, 115]), .string (ByteArray.mk #[98]), .string (ByteArray.mk #[115, 120]), .string (ByteArray.mk #[115]), .string (ByteArray.mk #[99, 113, 112]), .string (ByteArray.mk #[104, 103, 99, 113, 112, 100, 120]), .string (ByteArray.mk #[104, 103, 99, 113, 112, 100]), .string (ByteArray.mk #[99, 113, 112, 100]), .string (ByteArray.mk #[98, 115])] 9)).heap.size = w1.heap.size + 2 := by simp
  have c9 := R4.cell 9 _ rfl
  have f9 := R4.free 9
  have B5 : Below w.heap.size w (((w1.alloc (.cells #[(.int .i64 kind), (.int .u64 0), (.int .u64 0), (.int .i64 0), (.int .i64 0), (.int .u64 0), (.int .u64 0), (.int .u64 0), (.int .i64 0), (.slice (some ⟨w1.heap.size + 2, 0, none⟩) 1 1), (.slice none 0 0)] 32)).alloc (.cells #[.string (ByteArray.mk #[]), .string (ByteArray.mk #[104, 103, 99, 113, 120]), .string (ByteArray.mk #[104, 103, 99, 113, 112, 100]), .string (ByteArray.mk #[104, 103, 99, 113, 112, 120]), .string (ByteArray.mk #[104, 103, 112]), .string (ByteArray.mk #[104, 103, 112]), .string (ByteArray.mk #[104, 103, 118]), .string (ByteArray.mk #[98, 115]), .string (ByteArray.mk #[98, 115, 120]), .string (ByteArray.mk #[98, 115, 120]), .string (ByteArray.mk #[98, 115]), .string (ByteArray.mk #[98]), .string (ByteArray.mk #[115, 120]), .string (ByteArray.mk #[115]), .string (ByteArray.mk #[99, 113, 112]), .string (ByteArray.mk #[104, 103, 99, 113, 112, 100, 120]), .string (ByteArray.mk #[104, 103, 99, 113, 112, 100]), .string (ByteArray.mk #[99, 113, 112, 100]), .string (ByteArray.mk #[98, 115])] 9)).alloc (.cells #[.int .u64 0] 29)) := NB.bel (NB.bel (NB.bel hb1 (oneB w1 _) hb1.size) (oneB (w1.alloc (.cells #[(.int .i64 kind), (.int .u64 0), (.int .u64 0), (.int .i64 0), (.int .i64 0), (.int .u64 0), (.int .u64 0), (.int .u64 0), (.int .i64 0), (.slice (some ⟨w1.heap.size + 2, 0, none⟩) 1 1), (.slice none 0 0)] 32)) _) (NB.bel hb1 (oneB w1 _) hb1.size).size) (oneB ((w1.alloc (.cells #[(.int .i64 kind), (.int .u64 0), (.int .u64 0), (.int .i64 0), (.int .i64 0), (.int .u64 0), (.int .u64 0), (.int .u64 0), (.int .i64 0), (.slice (some ⟨w1.heap.size + 2, 0, none⟩) 1 1), (.slice none 0 0)] 32)).alloc (.cells #[.string (ByteArray.mk #[]), .string (ByteArray.mk #[104, 103, 99, 113, 120]), .string (ByteArray.mk #[104, 103, 99, 113, 112, 100]), .string (ByteArray.mk #[104, 103, 99, 113, 112, 120]), .string (ByteArray.mk #[104, 103, 112]), .string (ByteArray.mk #[104, 103, 112]), .string (ByteArray.mk #[104, 103, 118]), .string (ByteArray.mk #[98, 115]), .string (ByteArray.mk #[98, 115, 120]), .string (ByteArray.mk #[98, 115, 120]), .string (ByteArray.mk #[98, 115]), .string (ByteArray.mk #[98]), .string (ByteArray.mk #[115, 120]), .string (ByteArray.mk #[115]), .string (ByteArray.mk #[99, 113, 112]), .string (ByteArray.mk #[104, 103, 99, 113, 112, 100, 120]), .string (ByteArray.mk #[104, 103, 99, 113, 112, 100]), .string (ByteArray.mk #[99, 113, 112, 100]), .string (ByteArray.mk #[98, 115])] 9)) _) (NB.bel (NB.bel hb1 (oneB w1 _) hb1.size) (oneB (w1.alloc (.cells #[(.int .i64 kind), (.int .u64 0), (.int .u64 0), (.int .i64 0), (.int .i64 0), (.int .u64 0), (.int .u64 0), (.int .u64 0), (.int .i64 0), (.slice (some ⟨w1.heap.size + 2, 0, none⟩) 1 1), (.slice none 0 0)] 32)) _) (NB.bel hb1 (oneB w1 _) hb1.size).size).size
  have R5 : Rw (((w1.alloc (.cells #[(.int .i64 kind), (.int .u64 0), (.int .u64 0), (.int .i64 0), (.int .i64 0), (.int .u64 0), (.int .u64 0), (.int .u64 0), (.int .i64 0), (.slice (some ⟨w1.heap.size + 2, 0, none⟩) 1 1), (.slice none 0 0)] 32)).alloc (.cells #[.string (ByteArray.mk #[]), .string (ByteArray.mk #[104, 103, 99, 113, 120]), .string (ByteArray.mk #[104, 103, 99, 113, 112, 100]), .string (ByteArray.mk #[104, 103, 99, 113, 112, 120]), .string (ByteArray.mk #[104, 103, 112]), .string (ByteArray.mk #[104, 103, 112]), .string (ByteArray.mk #[104, 103, 118]), .string (ByteArray.mk #[98, 115]), .string (ByteArray.mk #[98, 115, 120]), .string (ByteArray.mk #[98, 115, 120]), .string (ByteArray.mk #[98, 115]), .string (ByteArray.mk #[98]), .string (ByteArray.mk #[115, 120]), .string (ByteArray.mk #[115]), .string (ByteArray.mk #[99, 113, 112]), .string (ByteArray.mk #[104, 103, 99, 113, 112, 100, 120]), .string (ByteArray.mk #[104, 103, 99, 113, 112, 100]), .string (ByteArray.mk #[99, 113, 112, 100]), .string (ByteArray.mk #[98, 115])] 9)).alloc (.cells #[.int .u64 0] 29)) w1.heap.size [(.int .i64 kind), (.int .u64 0), (.int .u64 0), (.int .i64 0), (.int .i64 0), (.int .u64 0), (.int .u64 0), (.int .u64 0), (.int .i64 0), (.slice (some ⟨w1.heap.size + 2, 0, none⟩) 1 1), (.slice none 0 0)] 32 := ((NB.rw_new w1 _ 32 rfl).below (oneB (w1.alloc (.cells #[(.int .i64 kind), (.int .u64 0), (.int .u64 0), (.int .i64 0), (.int .i64 0), (.int .u64 0), (.int .u64 0), (.int .u64 0), (.int .i64 0), (.slice (some ⟨w1.heap.size + 2, 0, none⟩) 1 1), (.slice none 0 0)] 32)) _)).below (oneB ((w1.alloc (.cells #[(.int .i64 kind), (.int .u64 0), (.int .u64 0), (.int .i64 0), (.int .i64 0), (.int .u64 0), (.int .u64 0), (.int .u64 0), (.int .i64 0), (.slice (some ⟨w1.heap.size + 2, 0, none⟩) 1 1), (.slice none 0 0)] 32)).alloc (.cells #[.string (ByteArray.mk #[]), .string (ByteArray.mk #[104, 103, 99, 113, 120]), .string (ByteArray.mk #[104, 103, 99, 113, 112, 100]), .string (ByteArray.mk #[104, 103, 99, 113, 112, 120]), .string (ByteArray.mk #[104, 103, 112]), .string (ByteArray.mk #[104, 103, 112]), .string (ByteArray.mk #[104, 103, 118]), .string (ByteArray.mk #[98, 115]), .string (ByteArray.mk #[98, 115, 120]), .string (ByteArray.mk #[98, 115, 120]), .string (ByteArray.mk #[98, 115]), .string (ByteArray.mk #[98]), .string (ByteArray.mk #[115, 120]), .string (ByteArray.mk #[115]), .string (ByteArray.mk #[99, 113, 112]), .string (ByteArray.mk #[104, 103, 99, 113, 112, 100, 120]), .string (ByteArray.mk #[104, 103, 99, 113, 112, 100]), .string (ByteArray.mk #[99, 113, 112, 100]), .string (ByteArray.mk #[98, 115])] 9)) _)
  have hT5 := HT.out.grow B5
  have l5 := R5.lt
  clear R3 B2 B3 R4 B4 hb1 hT1
  go_wp2_with fail
  go_loopw [10, 11] (fun x y wr => x = .bool false ∧ y = .int .i64 0 ∧ Below w.heap.size w wr ∧ Rw wr w1.heap.size [(.int .i64 kind), (.int .u64 0), (.int .u64 0), (.int .i64 0), (.int .i64 0), (.int .u64 0), (.int .u64 0), (.int .u64 0), (.int .i64 0), (.slice (some ⟨w1.heap.size + 2, 0, none⟩) 1 1), (.slice none 0 0)] 32) (fun _ _ _ => 0)
  case atStart => exact ⟨rfl, rfl, B5, R5⟩
  case round =>
    obtain ⟨rfl, rfl, BR, RR⟩ := hrel
    clear B5 R5 hT5 hm
    have e0 := RR.cell 0 _ rfl
    have e1 := RR.cell 1 _ rfl
    have e2 := RR.cell 2 _ rfl
    have e3 := RR.cell 3 _ rfl
    have e4 := RR.cell 4 _ rfl
    have e5 := RR.cell 5 _ rfl
    have e6 := RR.cell 6 _ rfl
    have e7 := RR.cell 7 _ rfl
    have e8 := RR.cell 8 _ rfl
    have e9 := RR.cell 9 _ rfl
    have e10 := RR.cell 10 _ rfl
    go_wp2_with fail
    refine (CK.out _ (HT.out.grow BR) (some ⟨w1.heap.size + 2, 0, none⟩) 1 none 0).mono ?_
    rintro e w9 ⟨rfl, hb9⟩
    have B9 := NB.bel BR hb9 BR.size
    go_wp2_with fail
    go_ret
    exact ⟨rfl, B9⟩

set_option maxRecDepth 100000 in
set_option maxHeartbeats 4000000 in
theorem kinds_A19 (w : World) (hT : Tb w) (kind wh : Int) (hw0 : 0 ≤ wh) (hw1 : wh < 256) (hm : wh % 10 = 9) (V : Bool) (S : List UInt8) (hS : S.length ≤ 7) (hk : ¬ 1 ≤ kind) (hSA : S = [])
    (hV : S.any (· == ltr.getD 9 0) = V) (hC : mcheckM (mK kind 9) = if V = true then 0 else 1) :
    Calls Tryd.prog 6 #[.int .i64 kind, .int .u8 wh] w fun e w' => e = .returned (.bool true) ∧ Below w.heap.size w w' := by
  have HT := Go.Lib.hid hT
  have HV := Go.Lib.hid hV
  have CK0 := fun W hT av cv ab cb => mcheck_any W hT (mK kind 9) av cv ab cb
  rw [hC] at CK0
  subst hSA
  obtain rfl : V = false := HV.out.symm
  simp only [Bool.false_eq_true, if_false, reduceIte] at CK0
  have CK := Go.Lib.hid CK0
  clear hT hV CK0 hC
  unfold msgV mK mm0 at CK
  simp only [List.toArray, List.length_nil, List.length_cons] at CK
  go_enter Tryd.func6, Tryd.ntmps6
  go_wp2_with fail
  refine (mawake_any _ HT.out).mono ?_
  rintro e w1 ⟨rfl, hb1⟩
  have hT1 := HT.out.grow hb1
  have B2 : Below w.heap.size w (w1.alloc (.cells #[(.int .i64 kind), (.int .u64 0), (.int .u64 0), (.int .i64 0), (.int .i64 0), (.int .u64 0), (.int .u64 0), (.int .u64 0), (.int .i64 0), (.slice none 0 0), (.slice none 0 0)] 32)) := NB.bel hb1 (oneB w1 _) hb1.size
  have B3 : Below w.heap.size w ((w1.alloc (.cells #[(.int .i64 kind), (.int .u64 0), (.int .u64 0), (.int .i64 0), (.int .i64 0), (.int .u64 0), (.int .u64 0), (.int .u64 0), (.int .i64 0), (.slice none 0 0), (.slice none 0 0)] 32)).alloc (.cells #[.string (ByteArray.mk #[]), .string (ByteArray.mk #[104, 103, 99, 113, 120]), .string (ByteArray.mk #[104, 103, 99, 113, 112, 100]), .string (ByteArray.mk #[104, 103, 99, 113, 112, 120]), .string (ByteArray.mk #[104, 103, 112]), .string (ByteArray.mk #[104, 103, 112]), .string (ByteArray.mk #[104, 103, 118]), .string (ByteArray.mk #[98, 115]), .string (ByteArray.mk #[98, 115, 120]), .string (ByteArray.mk #[98, 115, 120]), .string (ByteArray.mk #[98, 115]), .string (ByteArray.mk #[98]), .string (ByteArray.mk #[115, 120]), .string (ByteArray.mk #[115]), .string (ByteArray.mk #[99, 113, 112]), .string (ByteArray.mk #[104, 103, 99, 113, 112, 100, 120]), .string (ByteArray.mk #[104, 103, 99, 113, 112, 100]), .string (ByteArray.mk #[99, 113, 112, 100]), .string (ByteArray.mk #[98, 115])] 9)) := NB.bel B2 (oneB (w1.alloc (.cells #[(.int .i64 kind), (.int .u64 0), (.int .u64 0), (.int .i64 0), (.int .i64 0), (.int .u64 0), (.int .u64 0), (.int .u64 0), (.int .i64 0), (.slice none 0 0), (.slice none 0 0)] 32)) _) B2.size
  have R3 : Rw ((w1.alloc (.cells #[(.int .i64 kind), (.int .u64 0), (.int .u64 0), (.int .i64 0), (.int .i64 0), (.int .u64 0), (.int .u64 0), (.int .u64 0), (.int .i64 0), (.slice none 0 0), (.slice none 0 0)] 32)).alloc (.cells #[.string (ByteArray.mk #[]), .string (ByteArray.mk #[104, 103, 99, 113, 120]), .string (ByteArray.mk #[104, 103, 99, 113, 112, 100]), .string (ByteArray.mk #[104, 103, 99, 113, 112, 120]), .string (ByteArray.mk #[104, 103, 112]), .string (ByteArray.mk #[104, 103, 112]), .string (ByteArray.mk #[104, 103, 118]), .string (ByteArray.mk #[98, 115]), .string (ByteArray.mk #[98, 115, 120]), .string (ByteArray.mk #[98, 115, 120]), .string (ByteArray.mk #[98, 115]), .string (ByteArray.mk #[98]), .string (ByteArray.mk #[115, 120]), .string (ByteArray.mk #[115]), .string (ByteArray.mk #[99, 113, 112]), .string (ByteArray.mk #[104, 103, 99, 113, 112, 100, 120]), .string (ByteArray.mk #[104, 103, 99, 113, 112, 100]), .string (ByteArray.mk #[99, 113, 112, 100]), .string (ByteArray.mk #[98, 115])] 9)) w1.heap.size [(.int .i64 kind), (.int .u64 0), (.int .u64 0), (.int .i64 0), (.int .i64 0), (.int .u64 0), (.int .u64 0), (.int .u64 0), (.int .i64 0), (.slice none 0 0), (.slice none 0 0)] 32 := (NB.rw_new w1 _ 32 rfl).below (oneB (w1.alloc (.cells #[(.int .i64 kind), (.int .u64 0), (.int .u64 0), (.int .i64 0), (.int .i64 0), (.int .u64 0), (.int .u64 0), (.int .u64 0), (.int .i64 0), (.slice none 0 0), (.slice none 0 0)] 32)) _)
  have z2 : (w1.alloc (.cells #[(.int .i64 kind), (.int .u64 0), (.int .u64 0), (.int .i64 0), (.int .i64 0), (.int .u64 0), (.int .u64 0), (.int .u64 0), (.int .i64 0), (.slice none 0 0), (.slice none 0 0)] 32)).heap.size = w1.heap.size + 1 := by simp
  have B4 : Below w.heap.size w (((w1.alloc (.cells #[(.int .i64 kind), (.int .u64 0), (.int .u64 0), (.int .i64 0), (.int .i64 0), (.int .u64 0), (.int .u64 0), (.int .u64 0), (.int .i64 0), (.slice none 0 0), (.slice none 0 0)] 32)).alloc (.cells #[.string (ByteArray.mk #[]), .string (ByteArray.mk #[104, 103, 99, 113, 120]), .string (ByteArray.mk #[104, 103, 99, 113, 112, 100]), .string (ByteArray.mk #[104, 103, 99, 113, 112, 120]), .string (ByteArray.mk #[104, 103, 112]), .string (ByteArray.mk #[104, 103, 112]), .string (ByteArray.mk #[104, 103, 118]), .string (ByteArray.mk #[98, 115]), .string (ByteArray.mk #[98, 115, 120]), .string (ByteArray.mk #[98, 115, 120]), .string (ByteArray.mk #[98, 115]), .string (ByteArray.mk #[98]), .string (ByteArray.mk #[115, 120]), .string (ByteArray.mk #[115]), .string (ByteArray.mk #[99, 113, 112]), .string (ByteArray.mk #[104, 103, 99, 113, 112, 100, 120]), .string (ByteArray.mk #[104, 103, 99, 113, 112, 100]), .string (ByteArray.mk #[99, 113, 112, 100]), .string (ByteArray.mk #[98, 115])] 9)).alloc (.cells #[.int .u8 0] 5)) := NB.bel B3 (oneB ((w1.alloc (.cells #[(.int .i64 kind), (.int .u64 0), (.int .u64 0), (.int .i64 0), (.int .i64 0), (.int .u64 0), (.int .u64 0), (.int .u64 0), (.int .i64 0), (.slice none 0 0), (.slice none 0 0)] 32)).alloc (.cells #[.string (ByteArray.mk #[]), .string (ByteArray.mk #[104, 103, 99, 113, 120]), .string (ByteArray.mk #[104, 103, 99, 113, 112, 100]), .string (ByteArray.mk #[104, 103, 99, 113, 112, 120]), .string (ByteArray.mk #[104, 103, 112]), .string (ByteArray.mk #[104, 103, 112]), .string (ByteArray.mk #[104, 103, 118]), .string (ByteArray.mk #[98, 115]), .string (ByteArray.mk #[98, 115, 120]), .string (ByteArray.mk #[98, 115, 120]), .string (ByteArray.mk #[98, 115]), .string (ByteArray.mk #[98]), .string (ByteArray.mk #[115, 120]), .string (ByteArray.mk #[115]), .string (ByteArray.mk #[99, 113, 112]), .string (ByteArray.mk #[104, 103, 99, 113, 112, 100, 120]), .string (ByteArray.mk #[104, 103, 99, 113, 112, 100]), .string (ByteArray.mk #[99, 113, 112, 100]), .string (ByteArray.mk #[98, 115])] 9)) _) B3.size
  have R4 : Rw (((w1.alloc (.cells #[(.int .i64 kind), (.int .u64 0), (.int .u64 0), (.int .i64 0), (.int .i64 0), (.int .u64 0), (.int .u64 0), (.int .u64 0), (.int .i64 0), (.slice none 0 0), (.slice none 0 0)] 32)).alloc (.cells #[.string (ByteArray.mk #[]), .string (ByteArray.mk #[104, 103, 99, 113, 120]), .string (ByteArray.mk #[104, 103, 99, 113, 112, 100]), .string (ByteArray.mk #[104, 103, 99, 113, 112, 120]), .string (ByteArray.mk #[104, 103, 112]), .string (ByteArray.mk #[104, 103, 112]), .string (ByteArray.mk #[104, 103, 118]), .string (ByteArray.mk #[98, 115]), .string (ByteArray.mk #[98, 115, 120]), .string (ByteArray.mk #[98, 115, 120]), .string (ByteArray.mk #[98, 115]), .string (ByteArray.mk #[98]), .string (ByteArray.mk #[115, 120]), .string (ByteArray.mk #[115]), .string (ByteArray.mk #[99, 113, 112]), .string (ByteArray.mk #[104, 103, 99, 113, 112, 100, 120]), .string (ByteArray.mk #[104, 103, 99, 113, 112, 100]), .string (ByteArray.mk #[99, 113, 112, 100]), .string (ByteArray.mk #[98, 115])] 9)).alloc (.cells #[.int .u8 0] 5)) w1.heap.size [(.int .i64 kind), (.int .u64 0), (.int .u64 0), (.int .i64 0), (.int .i64 0), (.int .u64 0), (.int .u64 0), (.int .u64 0), (.int .i64 0), (.slice none 0 0), (.slice none 0 0)] 32 := R3.below (oneB ((w1.alloc (.cells #[(.int .i64 kind), (.int .u64 0), (.int .u64 0), (.int .i64 0), (.int .i64 0), (.int .u64 0), (.int .u64 0), (.int .u64 0), (.int .i64 0), (.slice none 0 0), (.slice none 0 0)] 32)).alloc (.cells #[.string (ByteArray.mk #[]), .string (ByteArray.mk #[104, 103, 99, 113, 120]), .string (ByteArray.mk #[104, 103, 99, 113, 112, 100]), .string (ByteArray.mk #[104, 103, 99, 113, 112, 120]), .string (ByteArray.mk #[104, 103, 112]), .string (ByteArray.mk #[104, 103, 112]), .string (ByteArray.mk #[104, 103, 118]), .string (ByteArray.mk #[98, 115]), .string (ByteArray.mk #[98, 115, 120]), .string (ByteArray.mk #[98, 115, 120]), .string (ByteArray.mk #[98, 115]), .string (ByteArray.mk #[98]), .string (ByteArray.mk #[115, 120]), .string (ByteArray.mk #[115]), .string (ByteArray.mk #[99, 113, 112]), .string (ByteArray.mk #[104, 103, 99, 113, 112, 100, 120]), .string (ByteArray.mk #[104, 103, 99, 113, 112, 100]), .string (ByteArray.mk #[99, 113, 112, 100]), .string (ByteArray.mk #[98, 115])] 9)) _)
  have z4 : ((w1.alloc (.cells #[(.int .i64 kind), (.int .u64 0), (.int .u64 0), (.int .i64 0), (.int .i64 0), (.int .u64 0), (.int .u64 0), (.int .u64 0), (.int .i64 0), (.slice none 0 0), (.slice none 0 0)] 32)).alloc (.cells #[.string (ByteArray.mk #[]), .string (ByteArray.mk #[104, 103, 99, 113, 120]), .string (ByteArray.mk #[104, 103, 99, 113, 112, 100]), .string (ByteArray.mk #[104, 103, 99, 113, 112, 120]), .string (ByteArray.mk #[104, 103, 112]), .string (ByteArray.mk #[104, 103, 112]), .string (ByteArray.mk #[104, 103, 118]), .string (ByteArray.mk #[98, 115]), .string (ByteArray.mk #[98, 115, 120]), .string (ByteArray.mk #[98, 115, 120]), .string (ByteArray.mk #[98, 115]), .string (ByteArray.mk #[98]), .string (ByteArray.mk #[115, 120]), .string (ByteArray.mk #[115]), .string (ByteArray.mk #[99, 113, 112]), .string (ByteArray.mk #[104, 103, 99, 113, 112, 100, 120]), .string (ByteArray.mk #[104, 103, 99, 113, 112, 100]), .string (ByteArray.mk #[99, 113, 112, 100]), .string (ByteArray.mk #[98, 115])] 9)).heap.size = w1.heap.size + 2 := by simp
  have c10 := R4.cell 10 _ rfl
  have f10 := R4.free 10
  have B5 : Below w.heap.size w (((w1.alloc (.cells #[(.int .i64 kind), (.int .u64 0), (.int .u64 0), (.int .i64 0), (.int .i64 0), (.int .u64 0), (.int .u64 0), (.int .u64 0), (.int .i64 0), (.slice none 0 0), (.slice (some ⟨w1.heap.size + 2, 0, none⟩) 1 1)] 32)).alloc (.cells #[.string (ByteArray.mk #[]), .string (ByteArray.mk #[104, 103, 99, 113, 120]), .string (ByteArray.mk #[104, 103, 99, 113, 112, 100]), .string (ByteArray.mk #[104, 103, 99, 113, 112, 120]), .string (ByteArray.mk #[104, 103, 112]), .string (ByteArray.mk #[104, 103, 112]), .string (ByteArray.mk #[104, 103, 118]), .string (ByteArray.mk #[98, 115]), .string (ByteArray.mk #[98, 115, 120]), .string (ByteArray.mk #[98, 115, 120]), .string (ByteArray.mk #[98, 115]), .string (ByteArray.mk #[98]), .string (ByteArray.mk #[115, 120]), .string (ByteArray.mk #[115]), .string (ByteArray.mk #[99, 113, 112]), .string (ByteArray.mk #[104, 103, 99, 113, 112, 100, 120]), .string (ByteArray.mk #[104, 103, 99, 113, 112, 100]), .string (ByteArray.mk #[99, 113, 112, 100]), .string (ByteArray.mk #[98, 115])] 9)).alloc (.cells #[.int .u8 0] 5)) := NB.bel (NB.bel (NB.bel hb1 (oneB w1 _) hb1.size) (oneB (w1.alloc (.cells #[(.int .i64 kind), (.int .u64 0), (.int .u64 0), (.int .i64 0), (.int .i64 0), (.int .u64 0), (.int .u64 0), (.int .u64 0), (.int .i64 0), (.slice none 0 0), (.slice (some ⟨w1.heap.size + 2, 0, none⟩) 1 1)] 32)) _) (NB.bel hb1 (oneB w1 _) hb1.size).size) (oneB ((w1.alloc (.cells #[(.int .i64 kind), (.int .u64 0), (.int .u64 0), (.int .i64 0), (.int .i64 0), (.int .u64 0), (.int .u64 0), (.int .u64 0), (.int .i64 0), (.slice none 0 0), (.slice (some ⟨w1.heap.size + 2, 0, none⟩) 1 1)] 32)).alloc (.cells #[.string (ByteArray.mk #[]), .string (ByteArray.mk #[104, 103, 99, 113, 120]), .string (ByteArray.mk #[104, 103, 99, 113, 112, 100]), .string (ByteArray.mk #[104, 103, 99, 113, 112, 120]), .string (ByteArray.mk #[104, 103, 112]), .string (ByteArray.mk #[104, 103, 112]), .string (ByteArray.mk #[104, 103, 118]), .string (ByteArray.mk #[98, 115]), .string (ByteArray.mk #[98, 115, 120]), .string (ByteArray.mk #[98, 115, 120]), .string (ByteArray.mk #[98, 115]), .string (ByteArray.mk #[98]), .string (ByteArray.mk #[115, 120]), .string (ByteArray.mk #[115]), .string (ByteArray.mk #[99, 113, 112]), .string (ByteArray.mk #[104, 103, 99, 113, 112, 100, 120]), .string (ByteArray.mk #[104, 103, 99, 113, 112, 100]), .string (ByteArray.mk #[99, 113, 112, 100]), .string (ByteArray.mk #[98, 115])] 9)) _) (NB.bel (NB.bel hb1 (oneB w1 _) hb1.size) (oneB (w1.alloc (.cells #[(.int .i64 kind), (.int .u64 0), (.int .u64 0), (.int .i64 0), (.int .i64 0), (.int .u64 0), (.int .u64 0), (.int .u64 0), (.int .i64 0), (.slice none 0 0), (.slice (some ⟨w1.heap.size + 2, 0, none⟩) 1 1)] 32)) _) (NB.bel hb1 (oneB w1 _) hb1.size).size).size
  have R5 : Rw (((w1.alloc (.cells #[(.int .i64 kind), (.int .u64 0), (.int .u64 0), (.int .i64 0), (.int .i64 0), (.int .u64 0), (.int .u64 0), (.int .u64 0), (.int .i64 0), (.slice none 0 0), (.slice (some ⟨w1.heap.size + 2, 0, none⟩) 1 1)] 32)).alloc (.cells #[.string (ByteArray.mk #[]), .string (ByteArray.mk #[104, 103, 99, 113, 120]), .string (ByteArray.mk #[104, 103, 99, 113, 112, 100]), .string (ByteArray.mk #[104, 103, 99, 113, 112, 120]), .string (ByteArray.mk #[104, 103, 112]), .string (ByteArray.mk #[104, 103, 112]), .string (ByteArray.mk #[104, 103, 118]), .string (ByteArray.mk #[98, 115]), .string (ByteArray.mk #[98, 115, 120]), .string (ByteArray.mk #[98, 115, 120]), .string (ByteArray.mk #[98, 115]), .string (ByteArray.mk #[98]), .string (ByteArray.mk #[115, 120]), .string (ByteArray.mk #[115]), .string (ByteArray.mk #[99, 113, 112]), .string (ByteArray.mk #[104, 103, 99, 113, 112, 100, 120]), .string (ByteArray.mk #[104, 103, 99, 113, 112, 100]), .string (ByteArray.mk #[99, 113, 112, 100]), .string (ByteArray.mk #[98, 115])] 9)).alloc (.cells #[.int .u8 0] 5)) w1.heap.size [(.int .i64 kind), (.int .u64 0), (.int .u64 0), (.int .i64 0), (.int .i64 0), (.int .u64 0), (.int .u64 0), (.int .u64 0), (.int .i64 0), (.slice none 0 0), (.slice (some ⟨w1.heap.size + 2, 0, none⟩) 1 1)] 32 := ((NB.rw_new w1 _ 32 rfl).below (oneB (w1.alloc (.cells #[(.int .i64 kind), (.int .u64 0), (.int .u64 0), (.int .i64 0), (.int .i64 0), (.int .u64 0), (.int .u64 0), (.int .u64 0), (.int .i64 0), (.slice none 0 0), (.slice (some ⟨w1.heap.size + 2, 0, none⟩) 1 1)] 32)) _)).below (oneB ((w1.alloc (.cells #[(.int .i64 kind), (.int .u64 0), (.int .u64 0), (.int .i64 0), (.int .i64 0), (.int .u64 0), (.int .u64 0), (.int .u64 0), (.int .i64 0), (.slice none 0 0), (.slice (some ⟨w1.heap.size + 2, 0, none⟩) 1 1)] 32)).alloc (.cells #[.string (ByteArray.mk #[]), .string (ByteArray.mk #[104, 103, 99, 113, 120]), .string (ByteArray.mk #[104, 103, 99, 113, 112, 100]), .string (ByteArray.mk #[104, 103, 99, 113, 112, 120]), .string (ByteArray.mk #[104, 103, 112]), .string (ByteArray.mk #[104, 103, 112]), .string (ByteArray.mk #[104, 103, 118]), .string (ByteArray.mk #[98, 115]), .string (ByteArray.mk #[98, 115, 120]), .string (ByteArray.mk #[98, 115, 120]), .string (ByteArray.mk #[98, 115]), .string (ByteArray.mk #[98]), .string (ByteArray.mk #[115, 120]), .string (ByteArray.mk #[115]), .string (ByteArray.mk #[99, 113, 112]), .string (ByteArray.mk #[104, 103, 99, 113, 112, 100, 120]), .string (ByteArray.mk #[104, 103, 99, 113, 112, 100]), .string (ByteArray.mk #[99, 113, 112, 100]), .string (ByteArray.mk #[98, 115])] 9)) _)
  have hT5 := HT.out.grow B5
  have l5 := R5.lt
  clear R3 B2 B3 R4 B4 hb1 hT1
  go_wp2_with fail
  go_loopw [10, 11] (fun x y wr => x = .bool false ∧ y = .int .i64 0 ∧ Below w.heap.size w wr ∧ Rw wr w1.heap.size [(.int .i64 kind), (.int .u64 0), (.int .u64 0), (.int .i64 0), (.int .i64 0), (.int .u64 0), (.int .u64 0), (.int .u64 0), (.int .i64 0), (.slice none 0 0), (.slice (some ⟨w1.heap.size + 2, 0, none⟩) 1 1)] 32) (fun _ _ _ => 0)
  case atStart => exact ⟨rfl, rfl, B5, R5⟩
  case round =>
    obtain ⟨rfl, rfl, BR, RR⟩ := hrel
    clear B5 R5 hT5 hm
    have e0 := RR.cell 0 _ rfl
    have e1 := RR.cell 1 _ rfl
    have e2 := RR.cell 2 _ rfl
    have e3 := RR.cell 3 _ rfl
    have e4 := RR.cell 4 _ rfl
    have e5 := RR.cell 5 _ rfl
    have e6 := RR.cell 6 _ rfl
    have e7 := RR.cell 7 _ rfl
    have e8 := RR.cell 8 _ rfl
    have e9 := RR.cell 9 _ rfl
    have e10 := RR.cell 10 _ rfl
    go_wp2_with fail
    refine (CK.out _ (HT.out.grow BR) none 0 (some ⟨w1.heap.size + 2, 0, none⟩) 1).mono ?_
    rintro e w9 ⟨rfl, hb9⟩
    have B9 := NB.bel BR hb9 BR.size
    go_wp2_with fail
    go_ret
    exact ⟨rfl, B9⟩

set_option maxRecDepth 100000 in
set_option maxHeartbeats 4000000 in
theorem kinds_A20 (w : World) (hT : Tb w) (kind wh : Int) (hw0 : 0 ≤ wh) (hw1 : wh < 256) (hm : wh % 10 = 0) (V : Bool) (S : List UInt8) (hS : S.length ≤ 7) (h1 : 1 ≤ kind) (hk : ¬ kind ≤ 18) (hSA : S = [])
    (hV : S.any (· == ltr.getD 0 0) = V) (hC : mcheckM (mK kind 0) = if V = true then 0 else 1) :
    Calls Tryd.prog 6 #[.int .i64 kind, .int .u8 wh] w fun e w' => e = .returned (.bool true) ∧ Below w.heap.size w w' := by
  have HT := Go.Lib.hid hT
  have HV := Go.Lib.hid hV
  have CK0 := fun W hT av cv ab cb => mcheck_any W hT (mK kind 0) av cv ab cb
  rw [hC] at CK0
  subst hSA
  obtain rfl : V = false := HV.out.symm
  simp only [Bool.false_eq_true, if_false, reduceIte] at CK0
  have CK := Go.Lib.hid CK0
  clear hT hV CK0 hC
  unfold msgV mK mm0 at CK
  simp only [List.toArray, List.length_nil, List.length_cons] at CK
  go_enter Tryd.func6, Tryd.ntmps6
  go_wp2_with fail
  refine (mawake_any _ HT.out).mono ?_
  rintro e w1 ⟨rfl, hb1⟩
  have hT1 := HT.out.grow hb1
  have B2 : Below w.heap.size w (w1.alloc (.cells #[(.int .i64 kind), (.int .u64 0), (.int .u64 0), (.int .i64 0), (.int .i64 0), (.int .u64 0), (.int .u64 0), (.int .u64 0), (.int .i64 0), (.slice none 0 0), (.slice none 0 0)] 32)) := NB.bel hb1 (oneB w1 _) hb1.size
  have B3 : Below w.heap.size w ((w1.alloc (.cells #[(.int .i64 kind), (.int .u64 0), (.int .u64 0), (.int .i64 0), (.int .i64 0), (.int .u64 0), (.int .u64 0), (.int .u64 0), (.int .i64 0), (.slice none 0 0), (.slice none 0 0)] 32)).alloc (.cells #[.string (ByteArray.mk #[]), .string (ByteArray.mk #[104, 103, 99, 113, 120]), .string (ByteArray.mk #[104, 103, 99, 113, 112, 100]), .string (ByteArray.mk #[104, 103, 99, 113, 112, 120]), .string (ByteArray.mk #[104, 103, 112]), .string (ByteArray.mk #[104, 103, 112]), .string (ByteArray.mk #[104, 103, 118]), .string (ByteArray.mk #[98, 115]), .string (ByteArray.mk #[98, 115, 120]), .string (ByteArray.mk #[98, 115, 120]), .string (ByteArray.mk #[98, 115]), .string (ByteArray.mk #[98]), .string (ByteArray.mk #[115, 120]), .string (ByteArray.mk #[115]), .string (ByteArray.mk #[99, 113, 112]), .string (ByteArray.mk #[104, 103, 99, 113, 112, 100, 120]), .string (ByteArray.mk #[104, 103, 99, 113, 112, 100]), .string (ByteArray.mk #[99, 113, 112, 100]), .string (ByteArray.mk #[98, 115])] 9)) := NB.bel B2 (oneB (w1.alloc (.cells #[(.int .i64 kind), (.int .u64 0), (.int .u64 0), (.int .i64 0), (.int .i64 0), (.int .u64 0), (.int .u64 0), (.int .u64 0), (.int .i64 0), (.slice none 0 0), (.slice none 0 0)] 32)) _) B2.size
  have R3 : Rw ((w1.alloc (.cells #[(.int .i64 kind), (.int .u64 0), (.int .u64 0), (.int .i64 0), (.int .i64 0), (.int .u64 0), (.int .u64 0), (.int .u64 0), (.int .i64 0), (.slice none 0 0), (.slice none 0 0)] 32)).alloc (.cells #[.string (ByteArray.mk #[]), .string (ByteArray.mk #[104, 103, 99, 113, 120]), .string (ByteArray.mk #[104, 103, 99, 113, 112, 100]), .string (ByteArray.mk #[104, 103, 99, 113, 112, 120]), .string (ByteArray.mk #[104, 103, 112]), .string (ByteArray.mk #[104, 103, 112]), .string (ByteArray.mk #[104, 103, 118]), .string (ByteArray.mk #[98, 115]), .string (ByteArray.mk #[98, 115, 120]), .string (ByteArray.mk #[98, 115, 120]), .string (ByteArray.mk #[98, 115]), .string (ByteArray.mk #[98]), .string (ByteArray.mk #[115, 120]), .string (ByteArray.mk #[115]), .string (ByteArray.mk #[99, 113, 112]), .string (ByteArray.mk #[104, 103, 99, 113, 112, 100, 120]), .string (ByteArray.mk #[104, 103, 99, 113, 112, 100]), .string (ByteArray.mk #[99, 113, 112, 100]), .string (ByteArray.mk #[98, 115])] 9)) w1.heap.size [(.int .i64 kind), (.int .u64 0), (.int .u64 0), (.int .i64 0), (.int .i64 0), (.int .u64 0), (.int .u64 0), (.int .u64 0), (.int .i64 0), (.slice none 0 0), (.slice none 0 0)] 32 := (NB.rw_new w1 _ 32 rfl).below (oneB (w1.alloc (.cells #[(.int .i64 kind), (.int .u64 0), (.int .u64 0), (.int .i64 0), (.int .i64 0), (.int .u64 0), (.int .u64 0), (.int .u64 0), (.int .i64 0), (.slice none 0 0), (.slice none 0 0)] 32)) _)
  have z2 : (w1.alloc (.cells #[(.int .i64 kind), (.int .u64 0), (.int .u64 0), (.int .i64 0), (.int .i64 0), (.int .u64 0), (.int .u64 0), (.int .u64 0), (.int .i64 0), (.slice none 0 0), (.slice none 0 0)] 32)).heap.size = w1.heap.size + 1 := by simp
  have c1 := R3.cell 1 _ rfl
  have f1 := R3.free 1
  have B5 : Below w.heap.size w ((w1.alloc (.cells #[(.int .i64 kind), (.int .u64 1), (.int .u64 0), (.int .i64 0), (.int .i64 0), (.int .u64 0), (.int .u64 0), (.int .u64 0), (.int .i64 0), (.slice none 0 0), (.slice none 0 0)] 32)).alloc (.cells #[.string (ByteArray.mk #[]), .string (ByteArray.mk #[104, 103, 99, 113, 120]), .string (ByteArray.mk #[104, 103, 99, 113, 112, 100]), .string (ByteArray.mk #[104, 103, 99, 113, 112, 120]), .string (ByteArray.mk #[104, 103, 112]), .string (ByteArray.mk #[104, 103, 112]), .string (ByteArray.mk #[104, 103, 118]), .string (ByteArray.mk #[98, 115]), .string (ByteArray.mk #[98, 115, 120]), .string (ByteArray.mk #[98, 115, 120]), .string (ByteArray.mk #[98, 115]), .string (ByteArray.mk #[98]), .string (ByteArray.mk #[115, 120]), .string (ByteArray.mk #[115]), .string (ByteArray.mk #[99, 113, 112]), .string (ByteArray.mk #[104, 103, 99, 113, 112, 100, 120]), .string (ByteArray.mk #[104, 103, 99, 113, 112, 100]), .string (ByteArray.mk #[99, 113, 112, 100]), .string (ByteArray.mk #[98, 115])] 9)) := NB.bel (NB.bel hb1 (oneB w1 _) hb1.size) (oneB (w1.alloc (.cells #[(.int .i64 kind), (.int .u64 1), (.int .u64 0), (.int .i64 0), (.int .i64 0), (.int .u64 0), (.int .u64 0), (.int .u64 0), (.int .i64 0), (.slice none 0 0), (.slice none 0 0)] 32)) _) (NB.bel hb1 (oneB w1 _) hb1.size).size
  have R5 : Rw ((w1.alloc (.cells #[(.int .i64 kind), (.int .u64 1), (.int .u64 0), (.int .i64 0), (.int .i64 0), (.int .u64 0), (.int .u64 0), (.int .u64 0), (.int .i64 0), (.slice none 0 0), (.slice none 0 0)] 32)).alloc (.cells #[.string (ByteArray.mk #[]), .string (ByteArray.mk #[104, 103, 99, 113, 120]), .string (ByteArray.mk #[104, 103, 99, 113, 112, 100]), .string (ByteArray.mk #[104, 103, 99, 113, 112, 120]), .string (ByteArray.mk #[104, 103, 112]), .string (ByteArray.mk #[104, 103, 112]), .string (ByteArray.mk #[104, 103, 118]), .string (ByteArray.mk #[98, 115]), .string (ByteArray.mk #[98, 115, 120]), .string (ByteArray.mk #[98, 115, 120]), .string (ByteArray.mk #[98, 115]), .string (ByteArray.mk #[98]), .string (ByteArray.mk #[115, 120]), .string (ByteArray.mk #[115]), .string (ByteArray.mk #[99, 113, 112]), .string (ByteArray.mk #[104, 103, 99, 113, 112, 100, 120]), .string (ByteArray.mk #[104, 103, 99, 113, 112, 100]), .string (ByteArray.mk #[99, 113, 112, 100]), .string (ByteArray.mk #[98, 115])] 9)) w1.heap.size [(.int .i64 kind), (.int .u64 1), (.int .u64 0), (.int .i64 0), (.int .i64 0), (.int .u64 0), (.int .u64 0), (.int .u64 0), (.int .i64 0), (.slice none 0 0), (.slice none 0 0)] 32 := (NB.rw_new w1 _ 32 rfl).below (oneB (w1.alloc (.cells #[(.int .i64 kind), (.int .u64 1), (.int .u64 0), (.int .i64 0), (.int .i64 0), (.int .u64 0), (.int .u64 0), (.int .u64 0), (.int .i64 0), (.slice none 0 0), (.slice none 0 0)] 32)) _)
  have hT5 := HT.out.grow B5
  have l5 := R5.lt
  clear R3 B2 B3 hb1 hT1
  go_wp2_with fail
  go_loopw [10, 11] (fun x y wr => x = .bool false ∧ y = .int .i64 0 ∧ Below w.heap.size w wr ∧ Rw wr w1.heap.size [(.int .i64 kind), (.int .u64 1), (.int .u64 0), (.int .i64 0), (.int .i64 0), (.int .u64 0), (.int .u64 0), (.int .u64 0), (.int .i64 0), (.slice none 0 0), (.slice none 0 0)] 32) (fun _ _ _ => 0)
  case atStart => exact ⟨rfl, rfl, B5, R5⟩
  case round =>
    obtain ⟨rfl, rfl, BR, RR⟩ := hrel
    clear B5 R5 hT5 hm
    have e0 := RR.cell 0 _ rfl
    have e1 := RR.cell 1 _ rfl
    have e2 := RR.cell 2 _ rfl
    have e3 := RR.cell 3 _ rfl
    have e4 := RR.cell 4 _ rfl
    have e5 := RR.cell 5 _ rfl
    have e6 := RR.cell 6 _ rfl
    have e7 := RR.cell 7 _ rfl
    have e8 := RR.cell 8 _ rfl
    have e9 := RR.cell 9 _ rfl
    have e10 := RR.cell 10 _ rfl
    go_wp2_with fail
    refine (CK.out _ (HT.out.grow BR) none 0 none 0).mono ?_
    rintro e w9 ⟨rfl, hb9⟩
    have B9 := NB.bel BR hb9 BR.size
    go_wp2_with fail
    go_ret
    exact ⟨rfl, B9⟩

set_option maxRecDepth 100000 in
set_option maxHeartbeats 4000000 in
theorem kinds_A21 (w : World) (hT : Tb w) (kind wh : Int) (hw0 : 0 ≤ wh) (hw1 : wh < 256) (hm : wh % 10 = 1) (V : Bool) (S : List UInt8) (hS : S.length ≤ 7) (h1 : 1 ≤ kind) (hk : ¬ kind ≤ 18) (hSA : S = [])
    (hV : S.any (· == ltr.getD 1 0) = V) (hC : mcheckM (mK kind 1) = if V = true then 0 else 1) :
    Calls Tryd.prog 6 #[.int .i64 kind, .int .u8 wh] w fun e w' => e = .returned (.bool true) ∧ Below w.heap.size w w' := by
  have HT := Go.Lib.hid hT
  have HV := Go.Lib.hid hV
  have CK0 := fun W hT av cv ab cb => mcheck_any W hT (mK kind 1) av cv ab cb
  rw [hC] at CK0
  subst hSA
  obtain rfl : V = false := HV.out.symm
  simp only [Bool.false_eq_true, if_false, reduceIte] at CK0
  have CK := Go.Lib.hid CK0
  clear hT hV CK0 hC
  unfold msgV mK mm0 at CK
  simp only [List.toArray, List.length_nil, List.length_cons] at CK
  go_enter Tryd.func6, Tryd.ntmps6
  go_wp2_with fail
  refine (mawake_any _ HT.out).mono ?_
  rintro e w1 ⟨rfl, hb1⟩
  have hT1 := HT.out.grow hb1
  have B2 : Below w.heap.size w (w1.alloc (.cells #[(.int .i64 kind), (.int .u64 0), (.int .u64 0), (.int .i64 0), (.int .i64 0), (.int .u64 0), (.int .u64 0), (.int .u64 0), (.int .i64 0), (.slice none 0 0), (.slice none 0 0)] 32)) := NB.bel hb1 (oneB w1 _) hb1.size
  have B3 : Below w.heap.size w ((w1.alloc (.cells #[(.int .i64 kind), (.int .u64 0), (.int .u64 0), (.int .i64 0), (.int .i64 0), (.int .u64 0), (.int .u64 0), (.int .u64 0), (.int .i64 0), (.slice none 0 0), (.slice none 0 0)] 32)).alloc (.cells #[.string (ByteArray.mk #[]), .string (ByteArray.mk #[104, 103, 99, 113, 120]), .string (ByteArray.mk #[104, 103, 99, 113, 112, 100]), .string (ByteArray.mk #[104, 103, 99, 113, 112, 120]), .string (ByteArray.mk #[104, 103, 112]), .string (ByteArray.mk #[104, 103, 112]), .string (ByteArray.mk #[104, 103, 118]), .string (ByteArray.mk #[98, 115]), .string (ByteArray.mk #[98, 115, 120]), .string (ByteArray.mk #[98, 115, 120]), .string (ByteArray.mk #[98, 115]), .string (ByteArray.mk #[98]), .string (ByteArray.mk #[115, 120]), .string (ByteArray.mk #[115]), .string (ByteArray.mk #[99, 113, 112]), .string (ByteArray.mk #[104, 103, 99, 113, 112, 100, 120]), .string (ByteArray.mk #[104, 103, 99, 113, 112, 100]), .string (ByteArray.mk #[99, 113, 112, 100]), .string (ByteArray.mk #[98, 115])] 9)) := NB.bel B2 (oneB (w1.alloc (.cells #[(.int .i64 kind), (.int .u64 0), (.int .u64 0), (.int .i64 0), (.int .i64 0), (.int .u64 0), (.int .u64 0), (.int .u64 0), (.int .i64 0), (.slice none 0 0), (.slice none 0 0)] 32)) _) B2.size
  have R3 : Rw ((w1.alloc (.cells #[(.int .i64 kind), (.int .u64 0), (.int .u64 0), (.int .i64 0), (.int .i64 0), (.int .u64 0), (.int .u64 0), (.int .u64 0), (.int .i64 0), (.slice none 0 0), (.slice none 0 0)] 32)).alloc (.cells #[.string (ByteArray.mk #[]), .string (ByteArray.mk #[104, 103, 99, 113, 120]), .string (ByteArray.mk #[104, 103, 99, 113, 112, 100]), .string (ByteArray.mk #[104, 103, 99, 113, 112, 120]), .string (ByteArray.mk #[104, 103, 112]), .string (ByteArray.mk #[104, 103, 112]), .string (ByteArray.mk #[104, 103, 118]), .string (ByteArray.mk #[98, 115]), .string (ByteArray.mk #[98, 115, 120]), .string (ByteArray.mk #[98, 115, 120]), .string (ByteArray.mk #[98, 115]), .string (ByteArray.mk #[98]), .string (ByteArray.mk #[115, 120]), .string (ByteArray.mk #[115]), .string (ByteArray.mk #[99, 113, 112]), .string (ByteArray.mk #[104, 103, 99, 113, 112, 100, 120]), .string (ByteArray.mk #[104, 103, 99, 113, 112, 100]), .string (ByteArray.mk #[99, 113, 112, 100]), .string (ByteArray.mk #[98, 115])] 9)) w1.heap.size [(.int .i64 kind), (.int .u64 0), (.int .u64 0), (.int .i64 0), (.int .i64 0), (.int .u64 0), (.int .u64 0), (.int .u64 0), (.int .i64 0), (.slice none 0 0), (.slice none 0 0)] 32 := (NB.rw_new w1 _ 32 rfl).below (oneB (w1.alloc (.cells #[(.int .i64 kind), (.int .u64 0), (.int .u64 0), (.int .i64 0), (.int .i64 0), (.int .u64 0), (.int .u64 0), (.int .u64 0), (.int .i64 0), (.slice none 0 0), (.slice none 0 0)] 32)) _)
  have z2 : (w1.alloc (.cells #[(.int .i64 kind), (.int .u64 0), (.int .u64 0), (.int .i64 0), (.int .i64 0), (.int .u64 0), (.int .u64 0), (.int .u64 0), (.int .i64 0), (.slice none 0 0), (.slice none 0 0)] 32)).heap.size = w1.heap.size + 1 := by simp
  have c2 := R3.cell 2 _ rfl
  have f2 := R3.free 2
  have B5 : Below w.heap.size w ((w1.alloc (.cells #[(.int .i64 kind), (.int .u64 0), (.int .u64 1), (.int .i64 0), (.int .i64 0), (.int .u64 0), (.int .u64 0), (.int .u64 0), (.int .i64 0), (.slice none 0 0), (.slice none 0 0)] 32)).alloc (.cells #[.string (ByteArray.mk #[]), .string (ByteArray.mk #[104, 103, 99, 113, 120]), .string (ByteArray.mk #[104, 103, 99, 113, 112, 100]), .string (ByteArray.mk #[104, 103, 99, 113, 112, 120]), .string (ByteArray.mk #[104, 103, 112]), .string (ByteArray.mk #[104, 103, 112]), .string (ByteArray.mk #[104, 103, 118]), .string (ByteArray.mk #[98, 115]), .string (ByteArray.mk #[98, 115, 120]), .string (ByteArray.mk #[98, 115, 120]), .string (ByteArray.mk #[98, 115]), .string (ByteArray.mk #[98]), .string (ByteArray.mk #[115, 120]), .string (ByteArray.mk #[115]), .string (ByteArray.mk #[99, 113, 112]), .string (ByteArray.mk #[104, 103, 99, 113, 112, 100, 120]), .string (ByteArray.mk #[104, 103, 99, 113, 112, 100]), .string (ByteArray.mk #[99, 113, 112, 100]), .string (ByteArray.mk #[98, 115])] 9)) := NB.bel (NB.bel hb1 (oneB w1 _) hb1.size) (oneB (w1.alloc (.cells #[(.int .i64 kind), (.int .u64 0), (.int .u64 1), (.int .i64 0), (.int .i64 0), (.int .u64 0), (.int .u64 0), (.int .u64 0), (.int .i64 0), (.slice none 0 0), (.slice none 0 0)] 32)) _) (NB.bel hb1 (oneB w1 _) hb1.size).size
  have R5 : Rw ((w1.alloc (.cells #[(.int .i64 kind), (.int .u64 0), (.int .u64 1), (.int .i64 0), (.int .i64 0), (.int .u64 0), (.int .u64 0), (.int .u64 0), (.int .i64 0), (.slice none 0 0), (.slice none 0 0)] 32)).alloc (.cells #[.string (ByteArray.mk #[]), .string (ByteArray.mk #[104, 103, 99, 113, 120]), .string (ByteArray.mk #[104, 103, 99, 113, 112, 100]), .string (ByteArray.mk #[104, 103, 99, 113, 112, 120]), .string (ByteArray.mk #[104, 103, 112]), .string (ByteArray.mk #[104, 103, 112]), .string (ByteArray.mk #[104, 103, 118]), .string (ByteArray.mk #[98, 115]), .string (ByteArray.mk #[98, 115, 120]), .string (ByteArray.mk #[98, 115, 120]), .string (ByteArray.mk #[98, 115]), .string (ByteArray.mk #[98]), .string (ByteArray.mk #[115, 120]), .string (ByteArray.mk #[115]), .string (ByteArray.mk #[99, 113, 112]), .string (ByteArray.mk #[104, 103, 99, 113, 112, 100, 120]), .string (ByteArray.mk #[104, 103, 99, 113, 112, 100]), .string (ByteArray.mk #[99, 113, 112, 100]), .string (ByteArray.mk #[98, 115])] 9)) w1.heap.size [(.int .i64 kind), (.int .u64 0), (.int .u64 1), (.int .i64 0), (.int .i64 0), (.int .u64 0), (.int .u64 0), (.int .u64 0), (.int .i64 0), (.slice none 0 0), (.slice none 0 0)] 32 := (NB.rw_new w1 _ 32 rfl).below (oneB (w1.alloc (.cells #[(.int .i64 kind), (.int .u64 0), (.int .u64 1), (.int .i64 0), (.int .i64 0), (.int .u64 0), (.int .u64 0), (.int .u64 0), (.int .i64 0), (.slice none 0 0), (.slice none 0 0)] 32)) _)
  have hT5 := HT.out.grow B5
  have l5 := R5.lt
  clear R3 B2 B3 hb1 hT1
  go_wp2_with fail
  go_loopw [10, 11] (fun x y wr => x = .bool false ∧ y = .int .i64 0 ∧ Below w.heap.size w wr ∧ Rw wr w1.heap.size [(.int .i64 kind), (.int .u64 0), (.int .u64 1), (.int .i64 0), (.int .i64 0), (.int .u64 0), (.int .u64 0), (.int .u64 0), (.int .i64 0), (.slice none 0 0), (.slice none 0 0)] 32) (fun _ _ _ => 0)
  case atStart => exact ⟨rfl, rfl, B5, R5⟩
  case round =>
    obtain ⟨rfl, rfl, BR, RR⟩ := hrel
    clear B5 R5 hT5 hm
    have e0 := RR.cell 0 _ rfl
    have e1 := RR.cell 1 _ rfl
    have e2 := RR.cell 2 _ rfl
    have e3 := RR.cell 3 _ rfl
    have e4 := RR.cell 4 _ rfl
    have e5 := RR.cell 5 _ rfl
    have e6 := RR.cell 6 _ rfl
    have e7 := RR.cell 7 _ rfl
    have e8 := RR.cell 8 _ rfl
    have e9 := RR.cell 9 _ rfl
    have e10 := RR.cell 10 _ rfl
    go_wp2_with fail
    refine (CK.out _ (HT.out.grow BR) none 0 none 0).mono ?_
    rintro e w9 ⟨rfl, hb9⟩
    have B9 := NB.bel BR hb9 BR.size
    go_wp2_with fail
    go_ret
    exact ⟨rfl, B9⟩

set_option maxRecDepth 100000 in
set_option maxHeartbeats 4000000 in
theorem kinds_A22 (w : World) (hT : Tb w) (kind wh : Int) (hw0 : 0 ≤ wh) (hw1 : wh < 256) (hm : wh % 10 = 2) (V : Bool) (S : List UInt8) (hS : S.length ≤ 7) (h1 : 1 ≤ kind) (hk : ¬ kind ≤ 18) (hSA : S = [])
    (hV : S.any (· == ltr.getD 2 0) = V) (hC : mcheckM (mK kind 2) = if V = true then 0 else 1) :
    Calls Tryd.prog 6 #[.int .i64 kind, .int .u8 wh] w fun e w' => e = .returned (.bool true) ∧ Below w.heap.size w w' := by
  have HT := Go.Lib.hid hT
  have HV := Go.Lib.hid hV
  have CK0 := fun W hT av cv ab cb => mcheck_any W hT (mK kind 2) av cv ab cb
  rw [hC] at CK0
  subst hSA
  obtain rfl : V = false := HV.out.symm
  simp only [Bool.false_eq_true, if_false, reduceIte] at CK0
  have CK := Go.Lib.hid CK0
  clear hT hV CK0 hC
  unfold msgV mK mm0 at CK
  simp only [List.toArray, List.length_nil, List.length_cons] at CK
  go_enter Tryd.func6, Tryd.ntmps6
  go_wp2_with fail
  refine (mawake_any _ HT.out).mono ?_
  rintro e w1 ⟨rfl, hb1⟩
  have hT1 := HT.out.grow hb1
  have B2 : Below w.heap.size w (w1.alloc (.cells #[(.int .i64 kind), (.int .u64 0), (.int .u64 0), (.int .i64 0), (.int .i64 0), (.int .u64 0), (.int .u64 0), (.int .u64 0), (.int .i64 0), (.slice none 0 0), (.slice none 0 0)] 32)) := NB.bel hb1 (oneB w1 _) hb1.size
  have B3 : Below w.heap.size w ((w1.alloc (.cells #[(.int .i64 kind), (.int .u64 0), (.int .u64 0), (.int .i64 0), (.int .i64 0), (.int .u64 0), (.int .u64 0), (.int .u64 0), (.int .i64 0), (.slice none 0 0), (.slice none 0 0)] 32)).alloc (.cells #[.string (ByteArray.mk #[]), .string (ByteArray.mk #[104, 103, 99, 113, 120]), .string (ByteArray.mk #[104, 103, 99, 113, 112, 100]), .string (ByteArray.mk #[104, 103, 99, 113, 112, 120]), .string (ByteArray.mk #[104, 103, 112]), .string (ByteArray.mk #[104, 103, 112]), .string (ByteArray.mk #[104, 103, 118]), .string (ByteArray.mk #[98, 115]), .string (ByteArray.mk #[98, 115, 120]), .string (ByteArray.mk #[98, 115, 120]), .string (ByteArray.mk #[98, 115]), .string (ByteArray.mk #[98]), .string (ByteArray.mk #[115, 120]), .string (ByteArray.mk #[115]), .string (ByteArray.mk #[99, 113, 112]), .string (ByteArray.mk #[104, 103, 99, 113, 112, 100, 120]), .string (ByteArray.mk #[104, 103, 99, 113, 112, 100]), .string (ByteArray.mk #[99, 113, 112, 100]), .string (ByteArray.mk #[98, 115])] 9)) := NB.bel B2 (oneB (w1.alloc (.cells #[(.int .i64 kind), (.int .u64 0), (.int .u64 0), (.int .i64 0), (.int .i64 0), (.int .u64 0), (.int .u64 0), (.int .u64 0), (.int .i64 0), (.slice none 0 0), (.slice none 0 0)] 32)) _) B2.size
  have R3 : Rw ((w1.alloc (.cells #[(.int .i64 kind), (.int .u64 0), (.int .u64 0), (.int .i64 0), (.int .i64 0), (.int .u64 0), (.int .u64 0), (.int .u64 0), (.int .i64 0), (.slice none 0 0), (.slice none 0 0)] 32)).alloc (.cells #[.string (ByteArray.mk #[]), .string (ByteArray.mk #[104, 103, 99, 113, 120]), .string (ByteArray.mk #[104, 103, 99, 113, 112, 100]), .string (ByteArray.mk #[104, 103, 99, 113, 112, 120]), .string (ByteArray.mk #[104, 103, 112]), .string (ByteArray.mk #[104, 103, 112]), .string (ByteArray.mk #[104, 103, 118]), .string (ByteArray.mk #[98, 115]), .string (ByteArray.mk #[98, 115, 120]), .string (ByteArray.mk #[98, 115, 120]), .string (ByteArray.mk #[98, 115]), .string (ByteArray.mk #[98]), .string (ByteArray.mk #[115, 120]), .string (ByteArray.mk #[115]), .string (ByteArray.mk #[99, 113, 112]), .string (ByteArray.mk #[104, 103, 99, 113, 112, 100, 120]), .string (ByteArray.mk #[104, 103, 99, 113, 112, 100]), .string (ByteArray.mk #[99, 113, 112, 100]), .string (ByteArray.mk #[98, 115])] 9)) w1.heap.size [(.int .i64 kind), (.int .u64 0), (.int .u64 0), (.int .i64 0), (.int .i64 0), (.int .u64 0), (.int .u64 0), (.int .u64 0), (.int .i64 0), (.slice none 0 0), (.slice none 0 0)] 32 := (NB.rw_new w1 _ 32 rfl).below (oneB (w1.alloc (.cells #[(.int .i64 kind), (.int .u64 0), (.int .u64 0), (.int .i64 0), (.int .i64 0), (.int .u64 0), (.int .u64 0), (.int .u64 0), (.int .i64 0), (.slice none 0 0), (.slice none 0 0)] 32)) _)
  have z2 : (w1.alloc (.cells #[(.int .i64 kind), (.int .u64 0), (.int .u64 0), (.int .i64 0), (.int .i64 0), (.int .u64 0), (.int .u64 0), (.int .u64 0), (.int .i64 0), (.slice none 0 0), (.slice none 0 0)] 32)).heap.size = w1.heap.size + 1 := by simp
  have c3 := R3.cell 3 _ rfl
  have f3 := R3.free 3
  have B5 : Below w.heap.size w ((w1.alloc (.cells #[(.int .i64 kind), (.int .u64 0), (.int .u64 0), (.int .i64 1), (.int .i64 0), (.int .u64 0), (.int .u64 0), (.int .u64 0), (.int .i64 0), (.slice none 0 0), (.slice none 0 0)] 32)).alloc (.cells #[.string (ByteArray.mk #[]), .string (ByteArray.mk #[104, 103, 99, 113, 120]), .string (ByteArray.mk #[104, 103, 99, 113, 112, 100]), .string (ByteArray.mk #[104, 103, 99, 113, 112, 120]), .string (ByteArray.mk #[104, 103, 112]), .string (ByteArray.mk #[104, 103, 112]), .string (ByteArray.mk #[104, 103, 118]), .string (ByteArray.mk #[98, 115]), .string (ByteArray.mk #[98, 115, 120]), .string (ByteArray.mk #[98, 115, 120]), .string (ByteArray.mk #[98, 115]), .string (ByteArray.mk #[98]), .string (ByteArray.mk #[115, 120]), .string (ByteArray.mk #[115]), .string (ByteArray.mk #[99, 113, 112]), .string (ByteArray.mk #[104, 103, 99, 113, 112, 100, 120]), .string (ByteArray.mk #[104, 103, 99, 113, 112, 100]), .string (ByteArray.mk #[99, 113, 112, 100]), .string (ByteArray.mk #[98, 115])] 9)) := NB.bel (NB.bel hb1 (oneB w1 _) hb1.size) (oneB (w1.alloc (.cells #[(.int .i64 kind), (.int .u64 0), (.int .u64 0), (.int .i64 1), (.int .i64 0), (.int .u64 0), (.int .u64 0), (.int .u64 0), (.int .i64 0), (.slice none 0 0), (.slice none 0 0)] 32)) _) (NB.bel hb1 (oneB w1 _) hb1.size).size
  have R5 : Rw ((w1.alloc (.cells #[(.int .i64 kind), (.int .u64 0), (.int .u64 0), (.int .i64 1), (.int .i64 0), (.int .u64 0), (.int .u64 0), (.int .u64 0), (.int .i64 0), (.slice none 0 0), (.slice none 0 0)] 32)).alloc (.cells #[.string (ByteArray.mk #[]), .string (ByteArray.mk #[104, 103, 99, 113, 120]), .string (ByteArray.mk #[104, 103, 99, 113, 112, 100]), .string (ByteArray.mk #[104, 103, 99, 113, 112, 120]), .string (ByteArray.mk #[104, 103, 112]), .string (ByteArray.mk #[104, 103, 112]), .string (ByteArray.mk #[104, 103, 118]), .string (ByteArray.mk #[98, 115]), .string (ByteArray.mk #[98, 115, 120]), .string (ByteArray.mk #[98, 115, 120]), .string (ByteArray.mk #[98, 115]), .string (ByteArray.mk #[98]), .string (ByteArray.mk #[115, 120]), .string (ByteArray.mk #[115]), .string (ByteArray.mk #[99, 113, 112]), .string (ByteArray.mk #[104, 103, 99, 113, 112, 100, 120]), .string (ByteArray.mk #[104, 103, 99, 113, 112, 100]), .string (ByteArray.mk #[99, 113, 112, 100]), .string (ByteArray.mk #[98, 115])] 9)) w1.heap.size [(.int .i64 kind), (.int .u64 0), (.int .u64 0), (.int .i64 1), (.int .i64 0), (.int .u64 0), (.int .u64 0), (.int .u64 0), (.int .i64 0), (.slice none 0 0), (.slice none 0 0)] 32 := (NB.rw_new w1 _ 32 rfl).below (oneB (w1.alloc (.cells #[(.int .i64 kind), (.int .u64 0), (.int .u64 0), (.int .i64 1), (.int .i64 0), (.int .u64 0), (.int .u64 0), (.int .u64 0), (.int .i64 0), (.slice none 0 0), (.slice none 0 0)] 32)) _)
  have hT5 := HT.out.grow B5
  have l5 := R5.lt
  clear R3 B2 B3 hb1 hT1
  go_wp2_with fail
  go_loopw [10, 11] (fun x y wr => x = .bool false ∧ y = .int .i64 0 ∧ Below w.heap.size w wr ∧ Rw wr w1.heap.size [(.int .i64 kind), (.int .u64 0), (.int .u64 0), (.int .i64 1), (.int .i64 0), (.int .u64 0), (.int .u64 0), (.int .u64 0), (.int .i64 0), (.slice none 0 0), (.slice none 0 0)] 32) (fun _ _ _ => 0)
  case atStart => exact ⟨rfl, rfl, B5, R5⟩
  case round =>
    obtain ⟨rfl, rfl, BR, RR⟩ := hrel
    clear B5 R5 hT5 hm
    have e0 := RR.cell 0 _ rfl
    have e1 := RR.cell 1 _ rfl
    have e2 := RR.cell 2 _ rfl
    have e3 := RR.cell 3 _ rfl
    have e4 := RR.cell 4 _ rfl
    have e5 := RR.cell 5 _ rfl
    have e6 := RR.cell 6 _ rfl
    have e7 := RR.cell 7 _ rfl
    have e8 := RR.cell 8 _ rfl
    have e9 := RR.cell 9 _ rfl
    have e10 := RR.cell 10 _ rfl
    go_wp2_with fail
    refine (CK.out _ (HT.out.grow BR) none 0 none 0).mono ?_
    rintro e w9 ⟨rfl, hb9⟩
    have B9 := NB.bel BR hb9 BR.size
    go_wp2_with fail
    go_ret
    exact ⟨rfl, B9⟩

set_option maxRecDepth 100000 in
set_option maxHeartbeats 4000000 in
theorem kinds_A23 (w : World) (hT : Tb w) (kind wh : Int) (hw0 : 0 ≤ wh) (hw1 : wh < 256) (hm : wh % 10 = 3) (V : Bool) (S : List UInt8) (hS : S.length ≤ 7) (h1 : 1 ≤ kind) (hk : ¬ kind ≤ 18) (hSA : S = [])
    (hV : S.any (· == ltr.getD 3 0) = V) (hC : mcheckM (mK kind 3) = if V = true then 0 else 1) :
    Calls Tryd.prog 6 #[.int .i64 kind, .int .u8 wh] w fun e w' => e = .returned (.bool true) ∧ Below w.heap.size w w' := by
  have HT := Go.Lib.hid hT
  have HV := Go.Lib.hid hV
  have CK0 := fun W hT av cv ab cb => mcheck_any W hT (mK kind 3) av cv ab cb
  rw [hC] at CK0
  subst hSA
  obtain rfl : V = false := HV.out.symm
  simp only [Bool.false_eq_true, if_false, reduceIte] at CK0
  have CK := Go.Lib.hid CK0
  clear hT hV CK0 hC
  unfold msgV mK mm0 at CK
  simp only [List.toArray, List.length_nil, List.length_cons] at CK
  go_enter Tryd.func6, Tryd.ntmps6
  go_wp2_with fail
  refine (mawake_any _ HT.out).mono ?_
  rintro e w1 ⟨rfl, hb1⟩
  have hT1 := HT.out.grow hb1
  have B2 : Below w.heap.size w (w1.alloc (.cells #[(.int .i64 kind), (.int .u64 0), (.int .u64 0), (.int .i64 0), (.int .i64 0), (.int .u64 0), (.int .u64 0), (.int .u64 0), (.int .i64 0), (.slice none 0 0), (.slice none 0 0)] 32)) := NB.bel hb1 (oneB w1 _) hb1.size
  have B3 : Below w.heap.size w ((w1.alloc (.cells #[(.int .i64 kind), (.int .u64 0), (.int .u64 0), (.int .i64 0), (.int .i64 0), (.int .u64 0), (.int .u64 0), (.int .u64 0), (.int .i64 0), (.slice none 0 0), (.slice none 0 0)] 32)).alloc (.cells #[.string (ByteArray.mk #[]), .string (ByteArray.mk #[104, 103, 99, 113, 120]), .string (ByteArray.mk #[104, 103, 99, 113, 112, 100]), .string (ByteArray.mk #[104, 103, 99, 113, 112, 120]), .string (ByteArray.mk #[104, 103, 112]), .string (ByteArray.mk #[104, 103, 112]), .string (ByteArray.mk #[104, 103, 118]), .string (ByteArray.mk #[98, 115]), .string (ByteArray.mk #[98, 115, 120]), .string (ByteArray.mk #[98, 115, 120]), .string (ByteArray.mk #[98, 115]), .string (ByteArray.mk #[98]), .string (ByteArray.mk #[115, 120]), .string (ByteArray.mk #[115]), .string (ByteArray.mk #[99, 113, 112]), .string (ByteArray.mk #[104, 103, 99, 113, 112, 100, 120]), .string (ByteArray.mk #[104, 103, 99, 113, 112, 100]), .string (ByteArray.mk #[99, 113, 112, 100]), .string (ByteArray.mk #[98, 115])] 9)) := NB.bel B2 (oneB (w1.alloc (.cells #[(.int .i64 kind), (.int .u64 0), (.int .u64 0), (.int .i64 0), (.int .i64 0), (.int .u64 0), (.int .u64 0), (.int .u64 0), (.int .i64 0), (.slice none 0 0), (.slice none 0 0)] 32)) _) B2.size
  have R3 : Rw ((w1.alloc (.cells #[(.int .i64 kind), (.int .u64 0), (.int .u64 0), (.int .i64 0), (.int .i64 0), (.int .u64 0), (.int .u64 0), (.int .u64 0), (.int .i64 0), (.slice none 0 0), (.slice none 0 0)] 32)).alloc (.cells #[.string (ByteArray.mk #[]), .string (ByteArray.mk #[104, 103, 99, 113, 120]), .string (ByteArray.mk #[104, 103, 99, 113, 112, 100]), .string (ByteArray.mk #[104, 103, 99, 113, 112, 120]), .string (ByteArray.mk #[104, 103, 112]), .string (ByteArray.mk #[104, 103, 112]), .string (ByteArray.mk #[104, 103, 118]), .string (ByteArray.mk #[98, 115]), .string (ByteArray.mk #[98, 115, 120]), .string (ByteArray.mk #[98, 115, 120]), .string (ByteArray.mk #[98, 115]), .string (ByteArray.mk #[98]), .string (ByteArray.mk #[115, 120]), .string (ByteArray.mk #[115]), .string (ByteArray.mk #[99, 113, 112]), .string (ByteArray.mk #[104, 103, 99, 113, 112, 100, 120]), .string (ByteArray.mk #[104, 103, 99, 113, 112, 100]), .string (ByteArray.mk #[99, 113, 112, 100]), .string (ByteArray.mk #[98, 115])] 9)) w1.heap.size [(.int .i64 kind), (.int .u64 0), (.int .u64 0), (.int .i64 0), (.int .i64 0), (.int .u64 0), (.int .u64 0), (.int .u64 0), (.int .i64 0), (.slice none 0 0), (.slice none 0 0)] 32 := (NB.rw_new w1 _ 32 rfl).below (oneB (w1.alloc (.cells #[(.int .i64 kind), (.int .u64 0), (.int .u64 0), (.int .i64 0), (.int .i64 0), (.int .u64 0), (.int .u64 0), (.int .u64 0), (.int .i64 0), (.slice none 0 0), (.slice none 0 0)] 32)) _)
  have z2 : (w1.alloc (.cells #[(.int .i64 kind), (.int .u64 0), (.int .u64 0), (.int .i64 0), (.int .i64 0), (.int .u64 0), (.int .u64 0), (.int .u64 0), (.int .i64 0), (.slice none 0 0), (.slice none 0 0)] 32)).heap.size = w1.heap.size + 1 := by simp
  have c4 := R3.cell 4 _ rfl
  have f4 := R3.free 4
  have B5 : Below w.heap.size w ((w1.alloc (.cells #[(.int .i64 kind), (.int .u64 0), (.int .u64 0), (.int .i64 0), (.int .i64 1), (.int .u64 0), (.int .u64 0), (.int .u64 0), (.int .i64 0), (.slice none 0 0), (.slice none 0 0)] 32)).alloc (.cells #[.string (ByteArray.mk #[]), .string (ByteArray.mk #[104, 103, 99, 113, 120]), .string (ByteArray.mk #[104, 103, 99, 113, 112, 100]), .string (ByteArray.mk #[104, 103, 99, 113, 112, 120]), .string (ByteArray.mk #[104, 103, 112]), .string (ByteArray.mk #[104, 103, 112]), .string (ByteArray.mk #[104, 103, 118]), .string (ByteArray.mk #[98, 115]), .string (ByteArray.mk #[98, 115, 120]), .string (ByteArray.mk #[98, 115, 120]), .string (ByteArray.mk #[98, 115]), .string (ByteArray.mk #[98]), .string (ByteArray.mk #[115, 120]), .string (ByteArray.mk #[115]), .string (ByteArray.mk #[99, 113, 112]), .string (ByteArray.mk #[104, 103, 99, 113, 112, 100, 120]), .string (ByteArray.mk #[104, 103, 99, 113, 112, 100]), .string (ByteArray.mk #[99, 113, 112, 100]), .string (ByteArray.mk #[98, 115])] 9)) := NB.bel (NB.bel hb1 (oneB w1 _) hb1.size) (oneB (w1.alloc (.cells #[(.int .i64 kind), (.int .u64 0), (.int .u64 0), (.int .i64 0), (.int .i64 1), (.int .u64 0), (.int .u64 0), (.int .u64 0), (.int .i64 0), (.slice none 0 0), (.slice none 0 0)] 32)) _) (NB.bel hb1 (oneB w1 _) hb1.size).size
  have R5 : Rw ((w1.alloc (.cells #[(.int .i64 kind), (.int .u64 0), (.int .u64 0), (.int .i64 0), (.int .i64 1), (.int .u64 0), (.int .u64 0), (.int .u64 0), (.int .i64 0), (.slice none 0 0), (.slice none 0 0)] 32)).alloc (.cells #[.string (ByteArray.mk #[]), .string (ByteArray.mk #[104, 103, 99, 113, 120]), .string (ByteArray.mk #[104, 103, 99, 113, 112, 100]), .string (ByteArray.mk #[104, 103, 99, 113, 112, 120]), .string (ByteArray.mk #[104, 103, 112]), .string (ByteArray.mk #[104, 103, 112]), .string (ByteArray.mk #[104, 103, 118]), .string (ByteArray.mk #[98, 115]), .string (ByteArray.mk #[98, 115, 120]), .string (ByteArray.mk #[98, 115, 120]), .string (ByteArray.mk #[98, 115]), .string (ByteArray.mk #[98]), .string (ByteArray.mk #[115, 120]), .string (ByteArray.mk #[115]), .string (ByteArray.mk #[99, 113, 112]), .string (ByteArray.mk #[104, 103, 99, 113, 112, 100, 120]), .string (ByteArray.mk #[104, 103, 99, 113, 112, 100]), .string (ByteArray.mk #[99, 113, 112, 100]), .string (ByteArray.mk #[98, 115])] 9)) w1.heap.size [(.int .i64 kind), (.int .u64 0), (.int .u64 0), (.int .i64 0), (.int .i64 1), (.int .u64 0), (.int .u64 0), (.int .u64 0), (.int .i64 0), (.slice none 0 0), (.slice none 0 0)] 32 := (NB.rw_new w1 _ 32 rfl).below (oneB (w1.alloc (.cells #[(.int .i64 kind), (.int .u64 0), (.int .u64 0), (.int .i64 0), (.int .i64 1), (.int .u64 0), (.int .u64 0), (.int .u64 0), (.int .i64 0), (.slice none 0 0), (.slice none 0 0)] 32)) _)
  have hT5 := HT.out.grow B5
  have l5 := R5.lt
  clear R3 B2 B3 hb1 hT1
  go_wp2_with fail
  go_loopw [10, 11] (fun x y wr => x = .bool false ∧ y = .int .i64 0 ∧ Below w.heap.size w wr ∧ Rw wr w1.heap.size [(.int .i64 kind), (.int .u64 0), (.int .u64 0), (.int .i64 0), (.int .i64 1), (.int .u64 0), (.int .u64 0), (.int .u64 0), (.int .i64 0), (.slice none 0 0), (.slice none 0 0)] 32) (fun _ _ _ => 0)
  case atStart => exact ⟨rfl, rfl, B5, R5⟩
  case round =>
    obtain ⟨rfl, rfl, BR, RR⟩ := hrel
    clear B5 R5 hT5 hm
    have e0 := RR.cell 0 _ rfl
    have e1 := RR.cell 1 _ rfl
    have e2 := RR.cell 2 _ rfl
    have e3 := RR.cell 3 _ rfl
    have e4 := RR.cell 4 _ rfl
    have e5 := RR.cell 5 _ rfl
    have e6 := RR.cell 6 _ rfl
    have e7 := RR.cell 7 _ rfl
    have e8 := RR.cell 8 _ rfl
    have e9 := RR.cell 9 _ rfl
    have e10 := RR.cell 10 _ rfl
    go_wp2_with fail
    refine (CK.out _ (HT.out.grow BR) none 0 none 0).mono ?_
    rintro e w9 ⟨rfl, hb9⟩
    have B9 := NB.bel BR hb9 BR.size
    go_wp2_with fail
    go_ret
    exact ⟨rfl, B9⟩

set_option maxRecDepth 100000 in
set_option maxHeartbeats 4000000 in
theorem kinds_A24 (w : World) (hT : Tb w) (kind wh : Int) (hw0 : 0 ≤ wh) (hw1 : wh < 256) (hm : wh % 10 = 4) (V : Bool) (S : List UInt8) (hS : S.length ≤ 7) (h1 : 1 ≤ kind) (hk : ¬ kind ≤ 18) (hSA : S = [])
    (hV : S.any (· == ltr.getD 4 0) = V) (hC : mcheckM (mK kind 4) = if V = true then 0 else 1) :
    Calls Tryd.prog 6 #[.int .i64 kind, .int .u8 wh] w fun e w' => e = .returned (.bool true) ∧ Below w.heap.size w w' := by
  have HT := Go.Lib.hid hT
  have HV := Go.Lib.hid hV
  have CK0 := fun W hT av cv ab cb => mcheck_any W hT (mK kind 4) av cv ab cb
  rw [hC] at CK0
  subst hSA
  obtain rfl : V = false := HV.out.symm
  simp only [Bool.false_eq_true, if_false, reduceIte] at CK0
  have CK := Go.Lib.hid CK0
  clear hT hV CK0 hC
  unfold msgV mK mm0 at CK
  simp only [List.toArray, List.length_nil, List.length_cons] at CK
  go_enter Tryd.func6, Tryd.ntmps6
  go_wp2_with fail
  refine (mawake_any _ HT.out).mono ?_
  rintro e w1 ⟨rfl, hb1⟩
  have hT1 := HT.out.grow hb1
  have B2 : Below w.heap.size w (w1.alloc (.cells #[(.int .i64 kind), (.int .u64 0), (.int .u64 0), (.int .i64 0), (.int .i64 0), (.int .u64 0), (.int .u64 0), (.int .u64 0), (.int .i64 0), (.slice none 0 0), (.slice none 0 0)] 32)) := NB.bel hb1 (oneB w1 _) hb1.size
  have B3 : Below w.heap.size w ((w1.alloc (.cells #[(.int .i64 kind), (.int .u64 0), (.int .u64 0), (.int .i64 0), (.int .i64 0), (.int .u64 0), (.int .u64 0), (.int .u64 0), (.int .i64 0), (.slice none 0 0), (.slice none 0 0)] 32)).alloc (.cells #[.string (ByteArray.mk #[]), .string (ByteArray.mk #[104, 103, 99, 113, 120]), .string (ByteArray.mk #[104, 103, 99, 113, 112, 100]), .string (ByteArray.mk #[104, 103, 99, 113, 112, 120]), .string (ByteArray.mk #[104, 103, 112]), .string (ByteArray.mk #[104, 103, 112]), .string (ByteArray.mk #[104, 103, 118]), .string (ByteArray.mk #[98, 115]), .string (ByteArray.mk #[98, 115, 120]), .string (ByteArray.mk #[98, 115, 120]), .string (ByteArray.mk #[98, 115]), .string (ByteArray.mk #[98]), .string (ByteArray.mk #[115, 120]), .string (ByteArray.mk #[115]), .string (ByteArray.mk #[99, 113, 112]), .string (ByteArray.mk #[104, 103, 99, 113, 112, 100, 120]), .string (ByteArray.mk #[104, 103, 99, 113, 112, 100]), .string (ByteArray.mk #[99, 113, 112, 100]), .string (ByteArray.mk #[98, 115])] 9)) := NB.bel B2 (oneB (w1.alloc (.cells #[(.int .i64 kind), (.int .u64 0), (.int .u64 0), (.int .i64 0), (.int .i64 0), (.int .u64 0), (.int .u64 0), (.int .u64 0), (.int .i64 0), (.slice none 0 0), (.slice none 0 0)] 32)) _) B2.size
  have R3 : Rw ((w1.alloc (.cells #[(.int .i64 kind), (.int .u64 0), (.int .u64 0), (.int .i64 0), (.int .i64 0), (.int .u64 0), (.int .u64 0), (.int .u64 0), (.int .i64 0), (.slice none 0 0), (.slice none 0 0)] 32)).alloc (.cells #[.string (ByteArray.mk #[]), .string (ByteArray.mk #[104, 103, 99, 113, 120]), .string (ByteArray.mk #[104, 103, 99, 113, 112, 100]), .string (ByteArray.mk #[104, 103, 99, 113, 112, 120]), .string (ByteArray.mk #[104, 103, 112]), .string (ByteArray.mk #[104, 103, 112]), .string (ByteArray.mk #[104, 103, 118]), .string (ByteArray.mk #[98, 115]), .string (ByteArray.mk #[98, 115, 120]), .string (ByteArray.mk #[98, 115, 120]), .string (ByteArray.mk #[98, 115]), .string (ByteArray.mk #[98]), .string (ByteArray.mk #[115, 120]), .string (ByteArray.mk #[115]), .string (ByteArray.mk #[99, 113, 112]), .string (ByteArray.mk #[104, 103, 99, 113, 112, 100, 120]), .string (ByteArray.mk #[104, 103, 99, 113, 112, 100]), .string (ByteArray.mk #[99, 113, 112, 100]), .string (ByteArray.mk #[98, 115])] 9)) w1.heap.size [(.int .i64 kind), (.int .u64 0), (.int .u64 0), (.int .i64 0), (.int .i64 0), (.int .u64 0), (.int .u64 0), (.int .u64 0), (.int .i64 0), (.slice none 0 0), (.slice none 0 0)] 32 := (NB.rw_new w1 _ 32 rfl).below (oneB (w1.alloc (.cells #[(.int .i64 kind), (.int .u64 0), (.int .u64 0), (.int .i64 0), (.int .i64 0), (.int .u64 0), (.int .u64 0), (.int .u64 0), (.int .i64 0), (.slice none 0 0), (.slice none 0 0)] 32)) _)
  have z2 : (w1.alloc (.cells #[(.int .i64 kind), (.int .u64 0), (.int .u64 0), (.int .i64 0), (.int .i64 0), (.int .u64 0), (.int .u64 0), (.int .u64 0), (.int .i64 0), (.slice none 0 0), (.slice none 0 0)] 32)).heap.size = w1.heap.size + 1 := by simp
  have c5 := R3.cell 5 _ rfl
  have f5 := R3.free 5
  have B5 : Below w.heap.size w ((w1.alloc (.cells #[(.int .i64 kind), (.int .u64 0), (.int .u64 0), (.int .i64 0), (.int .i64 0), (.int .u64 1), (.int .u64 0), (.int .u64 0), (.int .i64 0), (.slice none 0 0), (.slice none 0 0)] 32)).alloc (.cells #[.string (ByteArray.mk #[]), .string (ByteArray.mk #[104, 103, 99, 113, 120]), .string (ByteArray.mk #[104, 103, 99, 113, 112, 100]), .string (ByteArray.mk #[104, 103, 99, 113, 112, 120]), .string (ByteArray.mk #[104, 103, 112]), .string (ByteArray.mk #[104, 103, 112]), .string (ByteArray.mk #[104, 103, 118]), .string (ByteArray.mk #[98, 115]), .string (ByteArray.mk #[98, 115, 120]), .string (ByteArray.mk #[98, 115, 120]), .string (ByteArray.mk #[98, 115]), .string (ByteArray.mk #[98]), .string (ByteArray.mk #[115, 120]), .string (ByteArray.mk #[115]), .string (ByteArray.mk #[99, 113, 112]), .string (ByteArray.mk #[104, 103, 99, 113, 112, 100, 120]), .string (ByteArray.mk #[104, 103, 99, 113, 112, 100]), .string (ByteArray.mk #[99, 113, 112, 100]), .string (ByteArray.mk #[98, 115])] 9)) := NB.bel (NB.bel hb1 (oneB w1 _) hb1.size) (oneB (w1.alloc (.cells #[(.int .i64 kind), (.int .u64 0), (.int .u64 0), (.int .i64 0), (.int .i64 0), (.int .u64 1), (.int .u64 0), (.int .u64 0), (.int .i64 0), (.slice none 0 0), (.slice none 0 0)] 32)) _) (NB.bel hb1 (oneB w1 _) hb1.size).size
  have R5 : Rw ((w1.alloc (.cells #[(.int .i64 kind), (.int .u64 0), (.int .u64 0), (.int .i64 0), (.int .i64 0), (.int .u64 1), (.int .u64 0), (.int .u64 0), (.int .i64 0), (.slice none 0 0), (.slice none 0 0)] 32)).alloc (.cells #[.string (ByteArray.mk #[]), .string (ByteArray.mk #[104, 103, 99, 113, 120]), .string (ByteArray.mk #[104, 103, 99, 113, 112, 100]), .string (ByteArray.mk #[104, 103, 99, 113, 112, 120]), .string (ByteArray.mk #[104, 103, 112]), .string (ByteArray.mk #[104, 103, 112]), .string (ByteArray.mk #[104, 103, 118]), .string (ByteArray.mk #[98, 115]), .string (ByteArray.mk #[98, 115, 120]), .string (ByteArray.mk #[98, 115, 120]), .string (ByteArray.mk #[98, 115]), .string (ByteArray.mk #[98]), .string (ByteArray.mk #[115, 120]), .string (ByteArray.mk #[115]), .string (ByteArray.mk #[99, 113, 112]), .string (ByteArray.mk #[104, 103, 99, 113, 112, 100, 120]), .string (ByteArray.mk #[104, 103, 99, 113, 112, 100]), .string (ByteArray.mk #[99, 113, 112, 100]), .string (ByteArray.mk #[98, 115])] 9)) w1.heap.size [(.int .i64 kind), (.int .u64 0), (.int .u64 0), (.int .i64 0), (.int .i64 0), (.int .u64 1), (.int .u64 0), (.int .u64 0), (.int .i64 0), (.slice none 0 0), (.slice none 0 0)] 32 := (NB.rw_new w1 _ 32 rfl).below (oneB (w1.alloc (.cells #[(.int .i64 kind), (.int .u64 0), (.int .u64 0), (.int .i64 0), (.int .i64 0), (.int .u64 1), (.int .u64 0), (.int .u64 0), (.int .i64 0), (.slice none 0 0), (.slice none 0 0)] 32)) _)
  have hT5 := HT.out.grow B5
  have l5 := R5.lt
  clear R3 B2 B3 hb1 hT1
  go_wp2_with fail
  go_loopw [10, 11] (fun x y wr => x = .bool false ∧ y = .int .i64 0 ∧ Below w.heap.size w wr ∧ Rw wr w1.heap.size [(.int .i64 kind), (.int .u64 0), (.int .u64 0), (.int .i64 0), (.int .i64 0), (.int .u64 1), (.int .u64 0), (.int .u64 0), (.int .i64 0), (.slice none 0 0), (.slice none 0 0)] 32) (fun _ _ _ => 0)
  case atStart => exact ⟨rfl, rfl, B5, R5⟩
  case round =>
    obtain ⟨rfl, rfl, BR, RR⟩ := hrel
    clear B5 R5 hT5 hm
    have e0 := RR.cell 0 _ rfl
    have e1 := RR.cell 1 _ rfl
    have e2 := RR.cell 2 _ rfl
    have e3 := RR.cell 3 _ rfl
    have e4 := RR.cell 4 _ rfl
    have e5 := RR.cell 5 _ rfl
    have e6 := RR.cell 6 _ rfl
    have e7 := RR.cell 7 _ rfl
    have e8 := RR.cell 8 _ rfl
    have e9 := RR.cell 9 _ rfl
    have e10 := RR.cell 10 _ rfl
    go_wp2_with fail
    refine (CK.out _ (HT.out.grow BR) none 0 none 0).mono ?_
    rintro e w9 ⟨rfl, hb9⟩
    have B9 := NB.bel BR hb9 BR.size
    go_wp2_with fail
    go_ret
    exact ⟨rfl, B9⟩

set_option maxRecDepth 100000 in
set_option maxHeartbeats 4000000 in
theorem kinds_A25 (w : World) (hT : Tb w) (kind wh : Int) (hw0 : 0 ≤ wh) (hw1 : wh < 256) (hm : wh % 10 = 5) (V : Bool) (S : List UInt8) (hS : S.length ≤ 7) (h1 : 1 ≤ kind) (hk : ¬ kind ≤ 18) (hSA : S = [])
    (hV : S.any (· == ltr.getD 5 0) = V) (hC : mcheckM (mK kind 5) = if V = true then 0 else 1) :
    Calls Tryd.prog 6 #[.int .i64 kind, .int .u8 wh] w fun e w' => e = .returned (.bool true) ∧ Below w.heap.size w w' := by
  have HT := Go.Lib.hid hT
  have HV := Go.Lib.hid hV
  have CK0 := fun W hT av cv ab cb => mcheck_any W hT (mK kind 5) av cv ab cb
  rw [hC] at CK0
  subst hSA
  obtain rfl : V = false := HV.out.symm
  simp only [Bool.false_eq_true, if_false, reduceIte] at CK0
  have CK := Go.Lib.hid CK0
  clear hT hV CK0 hC
  unfold msgV mK mm0 at CK
  simp only [List.toArray, List.length_nil, List.length_cons] at CK
  go_enter Tryd.func6, Tryd.ntmps6
  go_wp2_with fail
  refine (mawake_any _ HT.out).mono ?_
  rintro e w1 ⟨rfl, hb1⟩
  have hT1 := HT.out.grow hb1
  have B2 : Below w.heap.size w (w1.alloc (.cells #[(.int .i64 kind), (.int .u64 0), (.int .u64 0), (.int .i64 0), (.int .i64 0), (.int .u64 0), (.int .u64 0), (.int .u64 0), (.int .i64 0), (.slice none 0 0), (.slice none 0 0)] 32)) := NB.bel hb1 (oneB w1 _) hb1.size
  have B3 : Below w.heap.size w ((w1.alloc (.cells #[(.int .i64 kind), (.int .u64 0), (.int .u64 0), (.int .i64 0), (.int .i64 0), (.int .u64 0), (.int .u64 0), (.int .u64 0), (.int .i64 0), (.slice none 0 0), (.slice none 0 0)] 32)).alloc (.cells #[.string (ByteArray.mk #[]), .string (ByteArray.mk #[104, 103, 99, 113, 120]), .string (ByteArray.mk #[104, 103, 99, 113, 112, 100]), .string (ByteArray.mk #[104, 103, 99, 113, 112, 120]), .string (ByteArray.mk #[104, 103, 112]), .string (ByteArray.mk #[104, 103, 112]), .string (ByteArray.mk #[104, 103, 118]), .string (ByteArray.mk #[98, 115]), .string (ByteArray.mk #[98, 115, 120]), .string (ByteArray.mk #[98, 115, 120]), .string (ByteArray.mk #[98, 115]), .string (ByteArray.mk #[98]), .string (ByteArray.mk #[115, 120]), .string (ByteArray.mk #[115]), .string (ByteArray.mk #[99, 113, 112]), .string (ByteArray.mk #[104, 103, 99, 113, 112, 100, 120]), .string (ByteArray.mk #[104, 103, 99, 113, 112, 100]), .string (ByteArray.mk #[99, 113, 112, 100]), .string (ByteArray.mk #[98, 115])] 9)) := NB.bel B2 (oneB (w1.alloc (.cells #[(.int .i64 kind), (.int .u64 0), (.int .u64 0), (.int .i64 0), (.int .i64 0), (.int .u64 0), (.int .u64 0), (.int .u64 0), (.int .i64 0), (.slice none 0 0), (.slice none 0 0)] 32)) _) B2.size
  have R3 : Rw ((w1.alloc (.cells #[(.int .i64 kind), (.int .u64 0), (.int .u64 0), (.int .i64 0), (.int .i64 0), (.int .u64 0), (.int .u64 0), (.int .u64 0), (.int .i64 0), (.slice none 0 0), (.slice none 0 0)] 32)).alloc (.cells #[.string (ByteArray.mk #[]), .string (ByteArray.mk #[104, 103, 99, 113, 120]), .string (ByteArray.mk #[104, 103, 99, 113, 112, 100]), .string (ByteArray.mk #[104, 103, 99, 113, 112, 120]), .string (ByteArray.mk #[104, 103, 112]), .string (ByteArray.mk #[104, 103, 112]), .string (ByteArray.mk #[104, 103, 118]), .string (ByteArray.mk #[98, 115]), .string (ByteArray.mk #[98, 115, 120]), .string (ByteArray.mk #[98, 115, 120]), .string (ByteArray.mk #[98, 115]), .string (ByteArray.mk #[98]), .string (ByteArray.mk #[115, 120]), .string (ByteArray.mk #[115]), .string (ByteArray.mk #[99, 113, 112]), .string (ByteArray.mk #[104, 103, 99, 113, 112, 100, 120]), .string (ByteArray.mk #[104, 103, 99, 113, 112, 100]), .string (ByteArray.mk #[99, 113, 112, 100]), .string (ByteArray.mk #[98, 115])] 9)) w1.heap.size [(.int .i64 kind), (.int .u64 0), (.int .u64 0), (.int .i64 0), (.int .i64 0), (.int .u64 0), (.int .u64 0), (.int .u64 0), (.int .i64 0), (.slice none 0 0), (.slice none 0 0)] 32 := (NB.rw_new w1 _ 32 rfl).below (oneB (w1.alloc (.cells #[(.int .i64 kind), (.int .u64 0), (.int .u64 0), (.int .i64 0), (.int .i64 0), (.int .u64 0), (.int .u64 0), (.int .u64 0), (.int .i64 0), (.slice none 0 0), (.slice none 0 0)] 32)) _)
  have z2 : (w1.alloc (.cells #[(.int .i64 kind), (.int .u64 0), (.int .u64 0), (.int .i64 0), (.int .i64 0), (.int .u64 0), (.int .u64 0), (.int .u64 0), (.int .i64 0), (.slice none 0 0), (.slice none 0 0)] 32)).heap.size = w1.heap.size + 1 := by simp
  have c6 := R3.cell 6 _ rfl
  have f6 := R3.free 6
  have B5 : Below w.heap.size w ((w1.alloc (.cells #[(.int .i64 kind), (.int .u64 0), (.int .u64 0), (.int .i64 0), (.int .i64 0), (.int .u64 0), (.int .u64 1), (.int .u64 0), (.int .i64 0), (.slice none 0 0), (.slice none 0 0)] 32)).alloc (.cells #[.string (ByteArray.mk #[]), .string (ByteArray.mk #[104, 103, 99, 113, 120]), .string (ByteArray.mk #[104, 103, 99, 113, 112, 100]), .string (ByteArray.mk #[104, 103, 99, 113, 112, 120]), .string (ByteArray.mk #[104, 103, 112]), .string (ByteArray.mk #[104, 103, 112]), .string (ByteArray.mk #[104, 103, 118]), .string (ByteArray.mk #[98, 115]), .string (ByteArray.mk #[98, 115, 120]), .string (ByteArray.mk #[98, 115, 120]), .string (ByteArray.mk #[98, 115]), .string (ByteArray.mk #[98]), .string (ByteArray.mk #[115, 120]), .string (ByteArray.mk #[115]), .string (ByteArray.mk #[99, 113, 112]), .string (ByteArray.mk #[104, 103, 99, 113, 112, 100, 120]), .string (ByteArray.mk #[104, 103, 99, 113, 112, 100]), .string (ByteArray.mk #[99, 113, 112, 100]), .string (ByteArray.mk #[98, 115])] 9)) := NB.bel (NB.bel hb1 (oneB w1 _) hb1.size) (oneB (w1.alloc (.cells #[(.int .i64 kind), (.int .u64 0), (.int .u64 0), (.int .i64 0), (.int .i64 0), (.int .u64 0), (.int .u64 1), (.int .u64 0), (.int .i64 0), (.slice none 0 0), (.slice none 0 0)] 32)) _) (NB.bel hb1 (oneB w1 _) hb1.size).size
  have R5 : Rw ((w1.alloc (.cells #[(.int .i64 kind), (.int .u64 0), (.int .u64 0), (.int .i64 0), (.int .i64 0), (.int .u64 0), (.int .u64 1), (.int .u64 0), (.int .i64 0), (.slice none 0 0), (.slice none 0 0)] 32)).alloc (.cells #[.string (ByteArray.mk #[]), .string (ByteArray.mk #[104, 103, 99, 113, 120]), .string (ByteArray.mk #[104, 103, 99, 113, 112, 100]), .string (ByteArray.mk #[104, 103, 99, 113, 112, 120]), .string (ByteArray.mk #[104, 103, 112]), .string (ByteArray.mk #[104, 103, 112]), .string (ByteArray.mk #[104, 103, 118]), .string (ByteArray.mk #[98, 115]), .string (ByteArray.mk #[98, 115, 120]), .string (ByteArray.mk #[98, 115, 120]), .string (ByteArray.mk #[98, 115]), .string (ByteArray.mk #[98]), .string (ByteArray.mk #[115, 120]), .string (ByteArray.mk #[115]), .string (ByteArray.mk #[99, 113, 112]), .string (ByteArray.mk #[104, 103, 99, 113, 112, 100, 120]), .string (ByteArray.mk #[104, 103, 99, 113, 112, 100]), .string (ByteArray.mk #[99, 113, 112, 100]), .string (ByteArray.mk #[98, 115])] 9)) w1.heap.size [(.int .i64 kind), (.int .u64 0), (.int .u64 0), (.int .i64 0), (.int .i64 0), (.int .u64 0), (.int .u64 1), (.int .u64 0), (.int .i64 0), (.slice none 0 0), (.slice none 0 0)] 32 := (NB.rw_new w1 _ 32 rfl).below (oneB (w1.alloc (.cells #[(.int .i64 kind), (.int .u64 0), (.int .u64 0), (.int .i64 0), (.int .i64 0), (.int .u64 0), (.int .u64 1), (.int .u64 0), (.int .i64 0), (.slice none 0 0), (.slice none 0 0)] 32)) _)
  have hT5 := HT.out.grow B5
  have l5 := R5.lt
  clear R3 B2 B3 hb1 hT1
  go_wp2_with fail
  go_loopw [10, 11] (fun x y wr => x = .bool false ∧ y = .int .i64 0 ∧ Below w.heap.size w wr ∧ Rw wr w1.heap.size [(.int .i64 kind), (.int .u64 0), (.int .u64 0), (.int .i64 0), (.int .i64 0), (.int .u64 0), (.int .u64 1), (.int .u64 0), (.int .i64 0), (.slice none 0 0), (.slice none 0 0)] 32) (fun _ _ _ => 0)
  case atStart => exact ⟨rfl, rfl, B5, R5⟩
  case round =>
    obtain ⟨rfl, rfl, BR, RR⟩ := hrel
    clear B5 R5 hT5 hm
    have e0 := RR.cell 0 _ rfl
    have e1 := RR.cell 1 _ rfl
    have e2 := RR.cell 2 _ rfl
    have e3 := RR.cell 3 _ rfl
    have e4 := RR.cell 4 _ rfl
    have e5 := RR.cell 5 _ rfl
    have e6 := RR.cell 6 _ rfl
    have e7 := RR.cell 7 _ rfl
    have e8 := RR.cell 8 _ rfl
    have e9 := RR.cell 9 _ rfl
    have e10 := RR.cell 10 _ rfl
    go_wp2_with fail
    refine (CK.out _ (HT.out.grow BR) none 0 none 0).mono ?_
    rintro e w9 ⟨rfl, hb9⟩
    have B9 := NB.bel BR hb9 BR.size
    go_wp2_with fail
    go_ret
    exact ⟨rfl, B9⟩

set_option maxRecDepth 100000 in
set_option maxHeartbeats 4000000 in
theorem kinds_A26 (w : World) (hT : Tb w) (kind wh : Int) (hw0 : 0 ≤ wh) (hw1 : wh < 256) (hm : wh % 10 = 6) (V : Bool) (S : List UInt8) (hS : S.length ≤ 7) (h1 : 1 ≤ kind) (hk : ¬ kind ≤ 18) (hSA : S = [])
    (hV : S.any (· == ltr.getD 6 0) = V) (hC : mcheckM (mK kind 6) = if V = true then 0 else 1) :
    Calls Tryd.prog 6 #[.int .i64 kind, .int .u8 wh] w fun e w' => e = .returned (.bool true) ∧ Below w.heap.size w w' := by
  have HT := Go.Lib.hid hT
  have HV := Go.Lib.hid hV
  have CK0 := fun W hT av cv ab cb => mcheck_any W hT (mK kind 6) av cv ab cb
  rw [hC] at CK0
  subst hSA
  obtain rfl : V = false := HV.out.symm
  simp only [Bool.false_eq_true, if_false, reduceIte] at CK0
  have CK := Go.Lib.hid CK0
  clear hT hV CK0 hC
  unfold msgV mK mm0 at CK
  simp only [List.toArray, List.length_nil, List.length_cons] at CK
  go_enter Tryd.func6, Tryd.ntmps6
  go_wp2_with fail
  refine (mawake_any _ HT.out).mono ?_
  rintro e w1 ⟨rfl, hb1⟩
  have hT1 := HT.out.grow hb1
  have B2 : Below w.heap.size w (w1.alloc (.cells #[(.int .i64 kind), (.int .u64 0), (.int .u64 0), (.int .i64 0), (.int .i64 0), (.int .u64 0), (.int .u64 0), (.int .u64 0), (.int .i64 0), (.slice none 0 0), (.slice none 0 0)] 32)) := NB.bel hb1 (oneB w1 _) hb1.size
  have B3 : Below w.heap.size w ((w1.alloc (.cells #[(.int .i64 kind), (.int .u64 0), (.int .u64 0), (.int .i64 0), (.int .i64 0), (.int .u64 0), (.int .u64 0), (.int .u64 0), (.int .i64 0), (.slice none 0 0), (.slice none 0 0)] 32)).alloc (.cells #[.string (ByteArray.mk #[]), .string (ByteArray.mk #[104, 103, 99, 113, 120]), .string (ByteArray.mk #[104, 103, 99, 113, 112, 100]), .string (ByteArray.mk #[104, 103, 99, 113, 112, 120]), .string (ByteArray.mk #[104, 103, 112]), .string (ByteArray.mk #[104, 103, 112]), .string (ByteArray.mk #[104, 103, 118]), .string (ByteArray.mk #[98, 115]), .string (ByteArray.mk #[98, 115, 120]), .string (ByteArray.mk #[98, 115, 120]), .string (ByteArray.mk #[98, 115]), .string (ByteArray.mk #[98]), .string (ByteArray.mk #[115, 120]), .string (ByteArray.mk #[115]), .string (ByteArray.mk #[99, 113, 112]), .string (ByteArray.mk #[104, 103, 99, 113, 112, 100, 120]), .string (ByteArray.mk #[104, 103, 99, 113, 112, 100]), .string (ByteArray.mk #[99, 113, 112, 100]), .string (ByteArray.mk #[98, 115])] 9)) := NB.bel B2 (oneB (w1.alloc (.cells #[(.int .i64 kind), (.int .u64 0), (.int .u64 0), (.int .i64 0), (.int .i64 0), (.int .u64 0), (.int .u64 0), (.int .u64 0), (.int .i64 0), (.slice none 0 0), (.slice none 0 0)] 32)) _) B2.size
  have R3 : Rw ((w1.alloc (.cells #[(.int .i64 kind), (.int .u64 0), (.int .u64 0), (.int .i64 0), (.int .i64 0), (.int .u64 0), (.int .u64 0), (.int .u64 0), (.int .i64 0), (.slice none 0 0), (.slice none 0 0)] 32)).alloc (.cells #[.string (ByteArray.mk #[]), .string (ByteArray.mk #[104, 103, 99, 113, 120]), .string (ByteArray.mk #[104, 103, 99, 113, 112, 100]), .string (ByteArray.mk #[104, 103, 99, 113, 112, 120]), .string (ByteArray.mk #[104, 103, 112]), .string (ByteArray.mk #[104, 103, 112]), .string (ByteArray.mk #[104, 103, 118]), .string (ByteArray.mk #[98, 115]), .string (ByteArray.mk #[98, 115, 120]), .string (ByteArray.mk #[98, 115, 120]), .string (ByteArray.mk #[98, 115]), .string (ByteArray.mk #[98]), .string (ByteArray.mk #[115, 120]), .string (ByteArray.mk #[115]), .string (ByteArray.mk #[99, 113, 112]), .string (ByteArray.mk #[104, 103, 99, 113, 112, 100, 120]), .string (ByteArray.mk #[104, 103, 99, 113, 112, 100]), .string (ByteArray.mk #[99, 113, 112, 100]), .string (ByteArray.mk #[98, 115])] 9)) w1.heap.size [(.int .i64 kind), (.int .u64 0), (.int .u64 0), (.int .i64 0), (.int .i64 0), (.int .u64 0), (.int .u64 0), (.int .u64 0), (.int .i64 0), (.slice none 0 0), (.slice none 0 0)] 32 := (NB.rw_new w1 _ 32 rfl).below (oneB (w1.alloc (.cells #[(.int .i64 kind), (.int .u64 0), (.int .u64 0), (.int .i64 0), (.int .i64 0), (.int .u64 0), (.int .u64 0), (.int .u64 0), (.int .i64 0), (.slice none 0 0), (.slice none 0 0)] 32)) _)
  have z2 : (w1.alloc (.cells #[(.int .i64 kind), (.int .u64 0), (.int .u64 0), (.int .i64 0), (.int .i64 0), (.int .u64 0), (.int .u64 0), (.int .u64 0), (.int .i64 0), (.slice none 0 0), (.slice none 0 0)] 32)).heap.size = w1.heap.size + 1 := by simp
  have c7 := R3.cell 7 _ rfl
  have f7 := R3.free 7
  have B5 : Below w.heap.size w ((w1.alloc (.cells #[(.int .i64 kind), (.int .u64 0), (.int .u64 0), (.int .i64 0), (.int .i64 0), (.int .u64 0), (.int .u64 0), (.int .u64 1), (.int .i64 0), (.slice none 0 0), (.slice none 0 0)] 32)).alloc (.cells #[.string (ByteArray.mk #[]), .string (ByteArray.mk #[104, 103, 99, 113, 120]), .string (ByteArray.mk #[104, 103, 99, 113, 112, 100]), .string (ByteArray.mk #[104, 103, 99, 113, 112, 120]), .string (ByteArray.mk #[104, 103, 112]), .string (ByteArray.mk #[104, 103, 112]), .string (ByteArray.mk #[104, 103, 118]), .string (ByteArray.mk #[98, 115]), .string (ByteArray.mk #[98, 115, 120]), .string (ByteArray.mk #[98, 115, 120]), .string (ByteArray.mk #[98, 115]), .string (ByteArray.mk #[98]), .string (ByteArray.mk #[115, 120]), .string (ByteArray.mk #[115]), .string (ByteArray.mk #[99, 113, 112]), .string (ByteArray.mk #[104, 103, 99, 113, 112, 100, 120]), .string (ByteArray.mk #[104, 103, 99, 113, 112, 100]), .string (ByteArray.mk #[99, 113, 112, 100]), .string (ByteArray.mk #[98, 115])] 9)) := NB.bel (NB.bel hb1 (oneB w1 _) hb1.size) (oneB (w1.alloc (.cells #[(.int .i64 kind), (.int .u64 0), (.int .u64 0), (.int .i64 0), (.int .i64 0), (.int .u64 0), (.int .u64 0), (.int .u64 1), (.int .i64 0), (.slice none 0 0), (.slice none 0 0)] 32)) _) (NB.bel hb1 (oneB w1 _) hb1.size).size
  have R5 : Rw ((w1.alloc (.cells #[(.int .i64 kind), (.int .u64 0), (.int .u64 0), (.int .i64 0), (.int .i64 0), (.int .u64 0), (.int .u64 0), (.int .u64 1), (.int .i64 0), (.slice none 0 0), (.slice none 0 0)] 32)).alloc (.cells #[.string (ByteArray.mk #[]), .string (ByteArray.mk #[104, 103, 99, 113, 120]), .string (ByteArray.mk #[104, 103, 99, 113, 112, 100]), .string (ByteArray.mk #[104, 103, 99, 113, 112, 120]), .string (ByteArray.mk #[104, 103, 112]), .string (ByteArray.mk #[104, 103, 112]), .string (ByteArray.mk #[104, 103, 118]), .string (ByteArray.mk #[98, 115]), .string (ByteArray.mk #[98, 115, 120]), .string (ByteArray.mk #[98, 115, 120]), .string (ByteArray.mk #[98, 115]), .string (ByteArray.mk #[98]), .string (ByteArray.mk #[115, 120]), .string (ByteArray.mk #[115]), .string (ByteArray.mk #[99, 113, 112]), .string (ByteArray.mk #[104, 103, 99, 113, 112, 100, 120]), .string (ByteArray.mk #[104, 103, 99, 113, 112, 100]), .string (ByteArray.mk #[99, 113, 112, 100]), .string (ByteArray.mk #[98, 115])] 9)) w1.heap.size [(.int .i64 kind), (.int .u64 0), (.int .u64 0), (.int .i64 0), (.int .i64 0), (.int .u64 0), (.int .u64 0), (.int .u64 1), (.int .i64 0), (.slice none 0 0), (.slice none 0 0)] 32 := (NB.rw_new w1 _ 32 rfl).below (oneB (w1.alloc (.cells #[(.int .i64 kind), (.int .u64 0), (.int .u64 0), (.int .i64 0), (.int .i64 0), (.int .u64 0), (.int .u64 0), (.int .u64 1), (.int .i64 0), (.slice none 0 0), (.slice none 0 0)] 32)) _)
  have hT5 := HT.out.grow B5
  have l5 := R5.lt
  clear R3 B2 B3 hb1 hT1
  go_wp2_with fail
  go_loopw [10, 11] (fun x y wr => x = .bool false ∧ y = .int .i64 0 ∧ Below w.heap.size w wr ∧ Rw wr w1.heap.size [(.int .i64 kind), (.int .u64 0), (.int .u64 0), (.int .i64 0), (.int .i64 0), (.int .u64 0), (.int .u64 0), (.int .u64 1), (.int .i64 0), (.slice none 0 0), (.slice none 0 0)] 32) (fun _ _ _ => 0)
  case atStart => exact ⟨rfl, rfl, B5, R5⟩
  case round =>
    obtain ⟨rfl, rfl, BR, RR⟩ := hrel
    clear B5 R5 hT5 hm
    have e0 := RR.cell 0 _ rfl
    have e1 := RR.cell 1 _ rfl
    have e2 := RR.cell 2 _ rfl
    have e3 := RR.cell 3 _ rfl
    have e4 := RR.cell 4 _ rfl
    have e5 := RR.cell 5 _ rfl
    have e6 := RR.cell 6 _ rfl
    have e7 := RR.cell 7 _ rfl
    have e8 := RR.cell 8 _ rfl
    have e9 := RR.cell 9 _ rfl
    have e10 := RR.cell 10 _ rfl
    go_wp2_with fail
    refine (CK.out _ (HT.out.grow BR) none 0 none 0).mono ?_
    rintro e w9 ⟨rfl, hb9⟩
    have B9 := NB.bel BR hb9 BR.size
    go_wp2_with fail
    go_ret
    exact ⟨rfl, B9⟩

set_option maxRecDepth 100000 in
set_option maxHeartbeats 4000000 in
theorem kinds_A27 (w : World) (hT : Tb w) (kind wh : Int) (hw0 : 0 ≤ wh) (hw1 : wh < 256) (hm : wh % 10 = 7) (V : Bool) (S : List UInt8) (hS : S.length ≤ 7) (h1 : 1 ≤ kind) (hk : ¬ kind ≤ 18) (hSA : S = [])
    (hV : S.any (· == ltr.getD 7 0) = V) (hC : mcheckM (mK kind 7) = if V = true then 0 else 1) :
    Calls Tryd.prog 6 #[.int .i64 kind, .int .u8 wh] w fun e w' => e = .returned (.bool true) ∧ Below w.heap.size w w' := by
  have HT := Go.Lib.hid hT
  have HV := Go.Lib.hid hV
  have CK0 := fun W hT av cv ab cb => mcheck_any W hT (mK kind 7) av cv ab cb
  rw [hC] at CK0
  subst hSA
  obtain rfl : V = false := HV.out.symm
  simp only [Bool.false_eq_true, if_false, reduceIte] at CK0
  have CK := Go.Lib.hid CK0
  clear hT hV CK0 hC
  unfold msgV mK mm0 at CK
  simp only [List.toArray, List.length_nil, List.length_cons] at CK
  go_enter Tryd.func6, Tryd.ntmps6
  go_wp2_with fail
  refine (mawake_any _ HT.out).mono ?_
  rintro e w1 ⟨rfl, hb1⟩
  have hT1 := HT.out.grow hb1
  have B2 : Below w.heap.size w (w1.alloc (.cells #[(.int .i64 kind), (.int .u64 0), (.int .u64 0), (.int .i64 0), (.int .i64 0), (.int .u64 0), (.int .u64 0), (.int .u64 0), (.int .i64 0), (.slice none 0 0), (.slice none 0 0)] 32)) := NB.bel hb1 (oneB w1 _) hb1.size
  have B3 : Below w.heap.size w ((w1.alloc (.cells #[(.int .i64 kind), (.int .u64 0), (.int .u64 0), (.int .i64 0), (.int .i64 0), (.int .u64 0), (.int .u64 0), (.int .u64 0), (.int .i64 0), (.slice none 0 0), (.slice none 0 0)] 32)).alloc (.cells #[.string (ByteArray.mk #[]), .string (ByteArray.mk #[104, 103, 99, 113, 120]), .string (ByteArray.mk #[104, 103, 99, 113, 112, 100]), .string (ByteArray.mk #[104, 103, 99, 113, 112, 120]), .string (ByteArray.mk #[104, 103, 112]), .string (ByteArray.mk #[104, 103, 112]), .string (ByteArray.mk #[104, 103, 118]), .string (ByteArray.mk #[98, 115]), .string (ByteArray.mk #[98, 115, 120]), .string (ByteArray.mk #[98, 115, 120]), .string (ByteArray.mk #[98, 115]), .string (ByteArray.mk #[98]), .string (ByteArray.mk #[115, 120]), .string (ByteArray.mk #[115]), .string (ByteArray.mk #[99, 113, 112]), .string (ByteArray.mk #[104, 103, 99, 113, 112, 100, 120]), .string (ByteArray.mk #[104, 103, 99, 113, 112, 100]), .string (ByteArray.mk #[99, 113, 112, 100]), .string (ByteArray.mk #[98, 115])] 9)) := NB.bel B2 (oneB (w1.alloc (.cells #[(.int .i64 kind), (.int .u64 0), (.int .u64 0), (.int .i64 0), (.int .i64 0), (.int .u64 0), (.int .u64 0), (.int .u64 0), (.int .i64 0), (.slice none 0 0), (.slice none 0 0)] 32)) _) B2.size
  have R3 : Rw ((w1.alloc (.cells #[(.int .i64 kind), (.int .u64 0), (.int .u64 0), (.int .i64 0), (.int .i64 0), (.int .u64 0), (.int .u64 0), (.int .u64 0), (.int .i64 0), (.slice none 0 0), (.slice none 0 0)] 32)).alloc (.cells #[.string (ByteArray.mk #[]), .string (ByteArray.mk #[104, 103, 99, 113, 120]), .string (ByteArray.mk #[104, 103, 99, 113, 112, 100]), .string (ByteArray.mk #[104, 103, 99, 113, 112, 120]), .string (ByteArray.mk #[104, 103, 112]), .string (ByteArray.mk #[104, 103, 112]), .string (ByteArray.mk #[104, 103, 118]), .string (ByteArray.mk #[98, 115]), .string (ByteArray.mk #[98, 115, 120]), .string (ByteArray.mk #[98, 115, 120]), .string (ByteArray.mk #[98, 115]), .string (ByteArray.mk #[98]), .string (ByteArray.mk #[115, 120]), .string (ByteArray.mk #[115]), .string (ByteArray.mk #[99, 113, 112]), .string (ByteArray.mk #[104, 103, 99, 113, 112, 100, 120]), .string (ByteArray.mk #[104, 103, 99, 113, 112, 100]), .string (ByteArray.mk #[99, 113, 112, 100]), .string (ByteArray.mk #[98, 115])] 9)) w1.heap.size [(.int .i64 kind), (.int .u64 0), (.int .u64 0), (.int .i64 0), (.int .i64 0), (.int .u64 0), (.int .u64 0), (.int .u64 0), (.int .i64 0), (.slice none 0 0), (.slice none 0 0)] 32 := (NB.rw_new w1 _ 32 rfl).below (oneB (w1.alloc (.cells #[(.int .i64 kind), (.int .u64 0), (.int .u64 0), (.int .i64 0), (.int .i64 0), (.int .u64 0), (.int .u64 0), (.int .u64 0), (.int .i64 0), (.slice none 0 0), (.slice none 0 0)] 32)) _)
  have z2 : (w1.alloc (.cells #[(.int .i64 kind), (.int .u64 0), (.int .u64 0), (.int .i64 0), (.int .i64 0), (.int .u64 0), (.int .u64 0), (.int .u64 0), (.int .i64 0), (.slice none 0 0), (.slice none 0 0)] 32)).heap.size = w1.heap.size + 1 := by simp
  have c8 := R3.cell 8 _ rfl
  have f8 := R3.free 8
  have B5 : Below w.heap.size w ((w1.alloc (.cells #[(.int .i64 kind), (.int .u64 0), (.int .u64 0), (.int .i64 0), (.int .i64 0), (.int .u64 0), (.int .u64 0), (.int .u64 0), (.int .i64 1), (.slice none 0 0), (.slice none 0 0)] 32)).alloc (.cells #[.string (ByteArray.mk #[]), .string (ByteArray.mk #[104, 103, 99, 113, 120]), .string (ByteArray.mk #[104, 103, 99, 113, 112, 100]), .string (ByteArray.mk #[104, 103, 99, 113, 112, 120]), .string (ByteArray.mk #[104, 103, 112]), .string (ByteArray.mk #[104, 103, 112]), .string (ByteArray.mk #[104, 103, 118]), .string (ByteArray.mk #[98, 115]), .string (ByteArray.mk #[98, 115, 120]), .string (ByteArray.mk #[98, 115, 120]), .string (ByteArray.mk #[98, 115]), .string (ByteArray.mk #[98]), .string (ByteArray.mk #[115, 120]), .string (ByteArray.mk #[115]), .string (ByteArray.mk #[99, 113, 112]), .string (ByteArray.mk #[104, 103, 99, 113, 112, 100, 120]), .string (ByteArray.mk #[104, 103, 99, 113, 112, 100]), .string (ByteArray.mk #[99, 113, 112, 100]), .string (ByteArray.mk #[98, 115])] 9)) := NB.bel (NB.bel hb1 (oneB w1 _) hb1.size) (oneB (w1.alloc (.cells #[(.int .i64 kind), (.int .u64 0), (.int .u64 0), (.int .i64 0), (.int .i64 0), (.int .u64 0), (.int .u64 0), (.int .u64 0), (.int .i64 1), (.slice none 0 0), (.slice none 0 0)] 32)) _) (NB.bel hb1 (oneB w1 _) hb1.size).size
  have R5 : Rw ((w1.alloc (.cells #[(.int .i64 kind), (.int .u64 0), (.int .u64 0), (.int .i64 0), (.int .i64 0), (.int .u64 0), (.int .u64 0), (.int .u64 0), (.int .i64 1), (.slice none 0 0), (.slice none 0 0)] 32)).alloc (.cells #[.string (ByteArray.mk #[]), .string (ByteArray.mk #[104, 103, 99, 113, 120]), .string (ByteArray.mk #[104, 103, 99, 113, 112, 100]), .string (ByteArray.mk #[104, 103, 99, 113, 112, 120]), .string (ByteArray.mk #[104, 103, 112]), .string (ByteArray.mk #[104, 103, 112]), .string (ByteArray.mk #[104, 103, 118]), .string (ByteArray.mk #[98, 115]), .string (ByteArray.mk #[98, 115, 120]), .string (ByteArray.mk #[98, 115, 120]), .string (ByteArray.mk #[98, 115]), .string (ByteArray.mk #[98]), .string (ByteArray.mk #[115, 120]), .string (ByteArray.mk #[115]), .string (ByteArray.mk #[99, 113, 112]), .string (ByteArray.mk #[104, 103, 99, 113, 112, 100, 120]), .string (ByteArray.mk #[104, 103, 99, 113, 112, 100]), .string (ByteArray.mk #[99, 113, 112, 100]), .string (ByteArray.mk #[98, 115])] 9)) w1.heap.size [(.int .i64 kind), (.int .u64 0), (.int .u64 0), (.int .i64 0), (.int .i64 0), (.int .u64 0), (.int .u64 0), (.int .u64 0), (.int .i64 1), (.slice none 0 0), (.slice none 0 0)] 32 := (NB.rw_new w1 _ 32 rfl).below (oneB (w1.alloc (.cells #[(.int .i64 kind), (.int .u64 0), (.int .u64 0), (.int .i64 0), (.int .i64 0), (.int .u64 0), (.int .u64 0), (.int .u64 0), (.int .i64 1), (.slice none 0 0), (.slice none 0 0)] 32)) _)
  have hT5 := HT.out.grow B5
  have l5 := R5.lt
  clear R3 B2 B3 hb1 hT1
  go_wp2_with fail
  go_loopw [10, 11] (fun x y wr => x = .bool false ∧ y = .int .i64 0 ∧ Below w.heap.size w wr ∧ Rw wr w1.heap.size [(.int .i64 kind), (.int .u64 0), (.int .u64 0), (.int .i64 0), (.int .i64 0), (.int .u64 0), (.int .u64 0), (.int .u64 0), (.int .i64 1), (.slice none 0 0), (.slice none 0 0)] 32) (fun _ _ _ => 0)
  case atStart => exact ⟨rfl, rfl, B5, R5⟩
  case round =>
    obtain ⟨rfl, rfl, BR, RR⟩ := hrel
    clear B5 R5 hT5 hm
    have e0 := RR.cell 0 _ rfl
    have e1 := RR.cell 1 _ rfl
    have e2 := RR.cell 2 _ rfl
    have e3 := RR.cell 3 _ rfl
    have e4 := RR.cell 4 _ rfl
    have e5 := RR.cell 5 _ rfl
    have e6 := RR.cell 6 _ rfl
    have e7 := RR.cell 7 _ rfl
    have e8 := RR.cell 8 _ rfl
    have e9 := RR.cell 9 _ rfl
    have e10 := RR.cell 10 _ rfl
    go_wp2_with fail
    refine (CK.out _ (HT.out.grow BR) none 0 none 0).mono ?_
    rintro e w9 ⟨rfl, hb9⟩
    have B9 := NB.bel BR hb9 BR.size
    go_wp2_with fail
    go_ret
    exact ⟨rfl, B9⟩

set_option maxRecDepth 100000 in
set_option maxHeartbeats 4000000 in
theorem kinds_A28 (w : World) (hT : Tb w) (kind wh : Int) (hw0 : 0 ≤ wh) (hw1 : wh < 256) (hm : wh % 10 = 8) (V : Bool) (S : List UInt8) (hS : S.length ≤ 7) (h1 : 1 ≤ kind) (hk : ¬ kind ≤ 18) (hSA : S = [])
    (hV : S.any (· == ltr.getD 8 0) = V) (hC : mcheckM (mK kind 8) = if V = true then 0 else 1) :
    Calls Tryd.prog 6 #[.int .i64 kind, .int .u8 wh] w fun e w' => e = .returned (.bool true) ∧ Below w.heap.size w w' := by
  have HT := Go.Lib.hid hT
  have HV := Go.Lib.hid hV
  have CK0 := fun W hT av cv ab cb => mcheck_any W hT (mK kind 8) av cv ab cb
  rw [hC] at CK0
  subst hSA
  obtain rfl : V = false := HV.out.symm
  simp only [Bool.false_eq_true, if_false, reduceIte] at CK0
  have CK := Go.Lib.hid CK0
  clear hT hV CK0 hC
  unfold msgV mK mm0 at CK
  simp only [List.toArray, List.length_nil, List.length_cons] at CK
  go_enter Tryd.func6, Tryd.ntmps6
  go_wp2_with fail
  refine (mawake_any _ HT.out).mono ?_
  rintro e w1 ⟨rfl, hb1⟩
  have hT1 := HT.out.grow hb1
  have B2 : Below w.heap.size w (w1.alloc (.cells #[(.int .i64 kind), (.int .u64 0), (.int .u64 0), (.int .i64 0), (.int .i64 0), (.int .u64 0), (.int .u64 0), (.int .u64 0), (.int .i64 0), (.slice none 0 0), (.slice none 0 0)] 32)) := NB.bel hb1 (oneB w1 _) hb1.size
  have B3 : Below w.heap.size w ((w1.alloc (.cells #[(.int .i64 kind), (.int .u64 0), (.int .u64 0), (.int .i64 0), (.int .i64 0), (.int .u64 0), (.int .u64 0), (.int .u64 0), (.int .i64 0), (.slice none 0 0), (.slice none 0 0)] 32)).alloc (.cells #[.string (ByteArray.mk #[]), .string (ByteArray.mk #[104, 103, 99, 113, 120]), .string (ByteArray.mk #[104, 103, 99, 113, 112, 100]), .string (ByteArray.mk #[104, 103, 99, 113, 112, 120]), .string (ByteArray.mk #[104, 103, 112]), .string (ByteArray.mk #[104, 103, 112]), .string (ByteArray.mk #[104, 103, 118]), .string (ByteArray.mk #[98, 115]), .string (ByteArray.mk #[98, 115, 120]), .string (ByteArray.mk #[98, 115, 120]), .string (ByteArray.mk #[98, 115]), .string (ByteArray.mk #[98]), .string (ByteArray.mk #[115, 120]), .string (ByteArray.mk #[115]), .string (ByteArray.mk #[99, 113, 112]), .string (ByteArray.mk #[104, 103, 99, 113, 112, 100, 120]), .string (ByteArray.mk #[104, 103, 99, 113, 112, 100]), .string (ByteArray.mk #[99, 113, 112, 100]), .string (ByteArray.mk #[98, 115])] 9)) := NB.bel B2 (oneB (w1.alloc (.cells #[(.int .i64 kind), (.int .u64 0), (.int .u64 0), (.int .i64 0), (.int .i64 0), (.int .u64 0), (.int .u64 0), (.int .u64 0), (.int .i64 0), (.slice none 0 0), (.slice none 0 0)] 32)) _) B2.size
  have R3 : Rw ((w1.alloc (.cells #[(.int .i64 kind), (.int .u64 0), (.int .u64 0), (.int .i64 0), (.int .i64 0), (.int .u64 0), (.int .u64 0), (.int .u64 0), (.int .i64 0), (.slice none 0 0), (.slice none 0 0)] 32)).alloc (.cells #[.string (ByteArray.mk #[]), .string (ByteArray.mk #[104, 103, 99, 113, 120]), .string (ByteArray.mk #[104, 103, 99, 113, 112, 100]), .string (ByteArray.mk #[104, 103, 99, 113, 112, 120]), .string (ByteArray.mk #[104, 103, 112]), .string (ByteArray.mk #[104, 103, 112]), .string (ByteArray.mk #[104, 103, 118]), .string (ByteArray.mk #[98, 115]), .string (ByteArray.mk #[98, 115, 120]), .string (ByteArray.mk #[98, 115, 120]), .string (ByteArray.mk #[98, 115]), .string (ByteArray.mk #[98]), .string (ByteArray.mk #[115, 120]), .string (ByteArray.mk #[115]), .string (ByteArray.mk #[99, 113, 112]), .string (ByteArray.mk #[104, 103, 99, 113, 112, 100, 120]), .string (ByteArray.mk #[104, 103, 99, 113, 112, 100]), .string (ByteArray.mk #[99, 113, 112, 100]), .string (ByteArray.mk #[98, 115])] 9)) w1.heap.size [(.int .i64 kind), (.int .u64 0), (.int .u64 0), (.int .i64 0), (.int .i64 0), (.int .u64 0), (.int .u64 0), (.int .u64 0), (.int .i64 0), (.slice none 0 0), (.slice none 0 0)] 32 := (NB.rw_new w1 _ 32 rfl).below (oneB (w1.alloc (.cells #[(.int .i64 kind), (.int .u64 0), (.int .u64 0), (.int .i64 0), (.int .i64 0), (.int .u64 0), (.int .u64 0), (.int .u64 0), (.int .i64 0), (.slice none 0 0), (.slice none 0 0)] 32)) _)
  have z2 : (w1.alloc (.cells #[(.int .i64 kind), (.int .u64 0), (.int .u64 0), (.int .i64 0), (.int .i64 0), (.int .u64 0), (.int .u64 0), (.int .u64 0), (.int .i64 0), (.slice none 0 0), (.slice none 0 0)] 32)).heap.size = w1.heap.size + 1 := by simp
  have B4 : Below w.heap.size w (((w1.alloc (.cells #[(.int .i64 kind), (.int .u64 0), (.int .u64 0), (.int .i64 0), (.int .i64 0), (.int .u64 0), (.int .u64 0), (.int .u64 0), (.int .i64 0), (.slice none 0 0), (.slice none 0 0)] 32)).alloc (.cells #[.string (ByteArray.mk #[]), .string (ByteArray.mk #[104, 103, 99, 113, 120]), .string (ByteArray.mk #[104, 103, 99, 113, 112, 100]), .string (ByteArray.mk #[104, 103, 99, 113, 112, 120]), .string (ByteArray.mk #[104, 103, 112]), .string (ByteArray.mk #[104, 103, 112]), .string (ByteArray.mk #[104, 103, 118]), .string (ByteArray.mk #[98, 115]), .string (ByteArray.mk #[98, 115, 120]), .string (ByteArray.mk #[98, 115, 120]), .string (ByteArray.mk #[98, 115]), .string (ByteArray.mk #[98]), .string (ByteArray.mk #[115, 120]), .string (ByteArray.mk #[115]), .string (ByteArray.mk #[99, 113, 112]), .string (ByteArray.mk #[104, 103, 99, 113, 112, 100, 120]), .string (ByteArray.mk #[104, 103, 99, 113, 112, 100]), .string (ByteArray.mk #[99, 113, 112, 100]), .string (ByteArray.mk #[98, 115])] 9)).alloc (.cells #[.int .u64 0] 29)) := NB.bel B3 (oneB ((w1.alloc (.cells #[(.int .i64 kind), (.int .u64 0), (.int .u64 0), (.int .i64 0), (.int .i64 0), (.int .u64 0), (.int .u64 0), (.int .u64 0), (.int .i64 0), (.slice none 0 0), (.slice none 0 0)] 32)).alloc (.cells #[.string (ByteArray.mk #[]), .string (ByteArray.mk #[104, 103, 99, 113, 120]), .string (ByteArray.mk #[104, 103, 99, 113, 112, 100]), .string (ByteArray.mk #[104, 103, 99, 113, 112, 120]), .string (ByteArray.mk #[104, 103, 112]), .string (ByteArray.mk #[104, 103, 112]), .string (ByteArray.mk #[104, 103, 118]), .string (ByteArray.mk #[98, 115]), .string (ByteArray.mk #[98, 115, 120]), .string (ByteArray.mk #[98, 115, 120]), .string (ByteArray.mk #[98, 115]), .string (ByteArray.mk #[98]), .string (ByteArray.mk #[115, 120]), .string (ByteArray.mk #[115]), .string (ByteArray.mk #[99, 113, 112]), .string (ByteArray.mk #[104, 103, 99, 113, 112, 100, 120]), .string (ByteArray.mk #[104, 103, 99, 113, 112, 100]), .string (ByteArray.mk #[99, 113, 112, 100]), .string (ByteArray.mk #[98, 115])] 9)) _) B3.size
  have R4 : Rw (((w1.alloc (.cells #[(.int .i64 kind), (.int .u64 0), (.int .u64 0), (.int .i64 0), (.int .i64 0), (.int .u64 0), (.int .u64 0), (.int .u64 0), (.int .i64 0), (.slice none 0 0), (.slice none 0 0)] 32)).alloc (.cells #[.string (ByteArray.mk #[]), .string (ByteArray.mk #[104, 103, 99, 113, 120]), .string (ByteArray.mk #[104, 103, 99, 113, 112, 100]), .string (ByteArray.mk #[104, 103, 99, 113, 112, 120]), .string (ByteArray.mk #[104, 103, 112]), .string (ByteArray.mk #[104, 103, 112]), .string (ByteArray.mk #[104, 103, 118]), .string (ByteArray.mk #[98, 115]), .string (ByteArray.mk #[98, 115, 120]), .string (ByteArray.mk #[98, 115, 120]), .string (ByteArray.mk #[98, 115]), .string (ByteArray.mk #[98]), .string (ByteArray.mk #[115, 120]), .string (ByteArray.mk #[115]), .string (ByteArray.mk #[99, 113, 112]), .string (ByteArray.mk #[104, 103, 99, 113, 112, 100, 120]), .string (ByteArray.mk #[104, 103, 99, 113, 112, 100]), .string (ByteArray.mk #[99, 113, 112, 100]), .string (ByteArray.mk #[98, 115])] 9)).alloc (.cells #[.int .u64 0] 29)) w1.heap.size [(.int .i64 kind), (.int .u64 0), (.int .u64 0), (.int .i64 0), (.int .i64 0), (.int .u64 0), (.int .u64 0), (.int .u64 0), (.int .i64 0), (.slice none 0 0), (.slice none 0 0)] 32 := R3.below (oneB ((w1.alloc (.cells #[(.int .i64 kind), (.int .u64 0), (.int .u64 0), (.int .i64 0), (.int .i64 0), (.int .u64 0), (.int .u64 0), (.int .u64 0), (.int .i64 0), (.slice none 0 0), (.slice none 0 0)] 32)).alloc (.cells #[.string (ByteArray.mk #[]), .string (ByteArray.mk #[104, 103, 99, 113, 120]), .string (ByteArray.mk #[104, 103, 99, 113, 112, 100]), .string (ByteArray.mk #[104, 103, 99, 113, 112, 120]), .string (ByteArray.mk #[104, 103, 112]), .string (ByteArray.mk #[104, 103, 112]), .string (ByteArray.mk #[104, 103, 118]), .string (ByteArray.mk #[98, 115]), .string (ByteArray.mk #[98, 115, 120]), .string (ByteArray.mk #[98, 115, 120]), .string (ByteArray.mk #[98, 115]), .string (ByteArray.mk #[98]), .string (ByteArray.mk #[115, 120]), .string (ByteArray.mk #[115]), .string (ByteArray.mk #[99, 113, 112]), .string (ByteArray.mk #[104, 103, 99, 113, 112, 100, 120]), .string (ByteArray.mk #[104, 103, 99, 113, 112, 100]), .string (ByteArray.mk #[99, 113, 112, 100]), .string (ByteArray.mk #[98, 115])] 9)) _)
  have z4 : ((w1.alloc (.cells #[(.int .i64 kind), (.int .u64 0), (.int .u64 0), (.int .i64 0), (.int .i64 0), (.int .u64 0), (.int .u64 0), (.int .u64 0), (.int .i64 0), (.slice none 0 0), (.slice none 0 0)] 32)).alloc (.cells #[.string (ByteArray.mk #[]), .string (ByteArray.mk #[104, 103, 99, 113, 120]), .string (ByteArray.mk #[104, 103, 99, 113, 112, 100]), .string (ByteArray.mk #[104, 103, 99, 113, 112, 120]), .string (ByteArray.mk #[104, 103, 112]), .string (ByteArray.mk #[104, 103, 112]), .string (ByteArray.mk #[104, 103, 118]), .string (ByteArray.mk #[98, 115]), .string (ByteArray.mk #[98, 115, 120]), .string (ByteArray.mk #[98, 115, 120]), .string (ByteArray.mk #[98, 115]), .string (ByteArray.mk #[98]), .string (ByteArray.mk #[115, 120]), .string (ByteArray.mk #[115]), .string (ByteArray.mk #[99, 113, 112]), .string (ByteArray.mk #[104, 103, 99, 113, 112, 100, 120]), .string (ByteArray.mk #[104, 103, 99, 113, 112, 100]), .string (ByteArray.mk #[99, 113, 112, 100]), .string (ByteArray.mk #[98, 115])] 9)).heap.size = w1.heap.size + 2 := by simp
  have c9 := R4.cell 9 _ rfl
  have f9 := R4.free 9
  have B5 : Below w.heap.size w (((w1.alloc (.cells #[(.int .i64 kind), (.int .u64 0), (.int .u64 0), (.int .i64 0), (.int .i64 0), (.int .u64 0), (.int .u64 0), (.int .u64 0), (.int .i64 0), (.slice (some ⟨w1.heap.size + 2, 0, none⟩) 1 1), (.slice none 0 0)] 32)).alloc (.cells #[.string (ByteArray.mk #[]), .string (ByteArray.mk #[104, 103, 99, 113, 120]), .string (ByteArray.mk #[104, 103, 99, 113, 112, 100]), .string (ByteArray.mk #[104, 103, 99, 113, 112, 120]), .string (ByteArray.mk #[104, 103, 112]), .string (ByteArray.mk #[104, 103, 112]), .string (ByteArray.mk #[104, 103, 118]), .string (ByteArray.mk #[98, 115]), .string (ByteArray.mk #[98, 115, 120]), .string (ByteArray.mk #[98, 115, 120]), .string (ByteArray.mk #[98, 115]), .string (ByteArray.mk #[98]), .string (ByteArray.mk #[115, 120]), .string (ByteArray.mk #[115]), .string (ByteArray.mk #[99, 113, 112]), .string (ByteArray.mk #[104, 103, 99, 113, 112, 100, 120]), .string (ByteArray.mk #[104, 103, 99, 113, 112, 100]), .string (ByteArray.mk #[99, 113, 112, 100]), .string (ByteArray.mk #[98, 115])] 9)).alloc (.cells #[.int .u64 0] 29)) := NB.bel (NB.bel (NB.bel hb1 (oneB w1 _) hb1.size) (oneB (w1.alloc (.cells #[(.int .i64 kind), (.int .u64 0), (.int .u64 0), (.int .i64 0), (.int .i64 0), (.int .u64 0), (.int .u64 0), (.int .u64 0), (.int .i64 0), (.slice (some ⟨w1.heap.size + 2, 0, none⟩) 1 1), (.slice none 0 0)] 32)) _) (NB.bel hb1 (oneB w1 _) hb1.size).size) (oneB ((w1.alloc (.cells #[(.int .i64 kind), (.int .u64 0), (.int .u64 0), (.int .i64 0), (.int .i64 0), (.int .u64 0), (.int .u64 0), (.int .u64 0), (.int .i64 0), (.slice (some ⟨w1.heap.size + 2, 0, none⟩) 1 1), (.slice none 0 0)] 32)).alloc (.cells #[.string (ByteArray.mk #[]), .string (ByteArray.mk #[104, 103, 99, 113, 120]), .string (ByteArray.mk #[104, 103, 99, 113, 112, 100]), .string (ByteArray.mk #[104, 103, 99, 113, 112, 120]), .string (ByteArray.mk #[104, 103, 112]), .string (ByteArray.mk #[104, 103, 112]), .string (ByteArray.mk #[104, 103, 118]), .string (ByteArray.mk #[98, 115]), .string (ByteArray.mk #[98, 115, 120]), .string (ByteArray.mk #[98, 115, 120]), .string (ByteArray.mk #[98, 115]), .string (ByteArray.mk #[98]), .string (ByteArray.mk #[115, 120]), .string (ByteArray.mk #[115]), .string (ByteArray.mk #[99, 113, 112]), .string (ByteArray.mk #[104, 103, 99, 113, 112, 100, 120]), .string (ByteArray.mk #[104, 103, 99, 113, 112, 100]), .string (ByteArray.mk #[99, 113, 112, 100]), .string (ByteArray.mk #[98, 115])] 9)) _) (NB.bel (NB.bel hb1 (oneB w1 _) hb1.size) (oneB (w1.alloc (.cells #[(.int .i64 kind), (.int .u64 0), (.int .u64 0), (.int .i64 0), (.int .i64 0), (.int .u64 0), (.int .u64 0), (.int .u64 0), (.int .i64 0), (.slice (some ⟨w1.heap.size + 2, 0, none⟩) 1 1), (.slice none 0 0)] 32)) _) (NB.bel hb1 (oneB w1 _) hb1.size).size).size
  have R5 : Rw (((w1.alloc (.cells #[(.int .i64 kind), (.int .u64 0), (.int .u64 0), (.int .i64 0), (.int .i64 0), (.int .u64 0), (.int .u64 0), (.int .u64 0), (.int .i64 0), (.slice (some ⟨w1.heap.size + 2, 0, none⟩) 1 1), (.slice none 0 0)] 32)).alloc (.cells #[.string (ByteArray.mk #[]), .string (ByteArray.mk #[104, 103, 99, 113, 120]), .string (ByteArray.mk #[104, 103, 99, 113, 112, 100]), .string (ByteArray.mk #[104, 103, 99, 113, 112, 120]), .string (ByteArray.mk #[104, 103, 112]), .string (ByteArray.mk #[104, 103, 112]), .string (ByteArray.mk #[104, 103, 118]), .string (ByteArray.mk #[98, 115]), .string (ByteArray.mk #[98, 115, 120]), .string (ByteArray.mk #[98, 115, 120]), .string (ByteArray.mk #[98, 115]), .string (ByteArray.mk #[98]), .string (ByteArray.mk #[115, 120]), .string (ByteArray.mk #[115]), .string (ByteArray.mk #[99, 113, 112]), .string (ByteArray.mk #[104, 103, 99, 113, 112, 100, 120]), .string (ByteArray.mk #[104, 103, 99, 113, 112, 100]), .string (ByteArray.mk #[99, 113, 112, 100]), .string (ByteArray.mk #[98, 115])] 9)).alloc (.cells #[.int .u64 0] 29)) w1.heap.size [(.int .i64 kind), (.int .u64 0), (.int .u64 0), (.int .i64 0), (.int .i64 0), (.int .u64 0), (.int .u64 0), (.int .u64 0), (.int .i64 0), (.slice (some ⟨w1.heap.size + 2, 0, none⟩) 1 1), (.slice none 0 0)] 32 := ((NB.rw_new w1 _ 32 rfl).below (oneB (w1.alloc (.cells #[(.int .i64 kind), (.int .u64 0), (.int .u64 0), (.int .i64 0), (.int .i64 0), (.int .u64 0), (.int .u64 0), (.int .u64 0), (.int .i64 0), (.slice (some ⟨w1.heap.size + 2, 0, none⟩) 1 1), (.slice none 0 0)] 32)) _)).below (oneB ((w1.alloc (.cells #[(.int .i64 kind), (.int .u64 0), (.int .u64 0), (.int .i64 0), (.int .i64 0), (.int .u64 0), (.int .u64 0), (.int .u64 0), (.int .i64 0), (.slice (some ⟨w1.heap.size + 2, 0, none⟩) 1 1), (.slice none 0 0)] 32)).alloc (.cells #[.string (ByteArray.mk #[]), .string (ByteArray.mk #[104, 103, 99, 113, 120]), .string (ByteArray.mk #[104, 103, 99, 113, 112, 100]), .string (ByteArray.mk #[104, 103, 99, 113, 112, 120]), .string (ByteArray.mk #[104, 103, 112]), .string (ByteArray.mk #[104, 103, 112]), .string (ByteArray.mk #[104, 103, 118]), .string (ByteArray.mk #[98, 115]), .string (ByteArray.mk #[98, 115, 120]), .string (ByteArray.mk #[98, 115, 120]), .string (ByteArray.mk #[98, 115]), .string (ByteArray.mk #[98]), .string (ByteArray.mk #[115, 120]), .string (ByteArray.mk #[115]), .string (ByteArray.mk #[99, 113, 112]), .string (ByteArray.mk #[104, 103, 99, 113, 112, 100, 120]), .string (ByteArray.mk #[104, 103, 99, 113, 112, 100]), .string (ByteArray.mk #[99, 113, 112, 100]), .string (ByteArray.mk #[98, 115])] 9)) _)
  have hT5 := HT.out.grow B5
  have l5 := R5.lt
  clear R3 B2 B3 R4 B4 hb1 hT1
  go_wp2_with fail
  go_loopw [10, 11] (fun x y wr => x = .bool false ∧ y = .int .i64 0 ∧ Below w.heap.size w wr ∧ Rw wr w1.heap.size [(.int .i64 kind), (.int .u64 0), (.int .u64 0), (.int .i64 0), (.int .i64 0), (.int .u64 0), (.int .u64 0), (.int .u64 0), (.int .i64 0), (.slice (some ⟨w1.heap.size + 2, 0, none⟩) 1 1), (.slice none 0 0)] 32) (fun _ _ _ => 0)
  case atStart => exact ⟨rfl, rfl, B5, R5⟩
  case round =>
    obtain ⟨rfl, rfl, BR, RR⟩ := hrel
    clear B5 R5 hT5 hm
    have e0 := RR.cell 0 _ rfl
    have e1 := RR.cell 1 _ rfl
    have e2 := RR.cell 2 _ rfl
    have e3 := RR.cell 3 _ rfl
    have e4 := RR.cell 4 _ rfl
    have e5 := RR.cell 5 _ rfl
    have e6 := RR.cell 6 _ rfl
    have e7 := RR.cell 7 _ rfl
    have e8 := RR.cell 8 _ rfl
    have e9 := RR.cell 9 _ rfl
    have e10 := RR.cell 10 _ rfl
    go_wp2_with fail
    refine (CK.out _ (HT.out.grow BR) (some ⟨w1.heap.size + 2, 0, none⟩) 1 none 0).mono ?_
    rintro e w9 ⟨rfl, hb9⟩
    have B9 := NB.bel BR hb9 BR.size
    go_wp2_with fail
    go_ret
    exact ⟨rfl, B9⟩

set_option maxRecDepth 100000 in
set_option maxHeartbeats 4000000 in
theorem kinds_A29 (w : World) (hT : Tb w) (kind wh : Int) (hw0 : 0 ≤ wh) (hw1 : wh < 256) (hm : wh % 10 = 9) (V : Bool) (S : List UInt8) (hS : S.length ≤ 7) (h1 : 1 ≤ kind) (hk : ¬ kind ≤ 18) (hSA : S = [])
    (hV : S.any (· == ltr.getD 9 0) = V) (hC : mcheckM (mK kind 9) = if V = true then 0 else 1) :
    Calls Tryd.prog 6 #[.int .i64 kind, .int .u8 wh] w fun e w' => e = .returned (.bool true) ∧ Below w.heap.size w w' := by
  have HT := Go.Lib.hid hT
  have HV := Go.Lib.hid hV
  have CK0 := fun W hT av cv ab cb => mcheck_any W hT (mK kind 9) av cv ab cb
  rw [hC] at CK0
  subst hSA
  obtain rfl : V = false := HV.out.symm
  simp only [Bool.false_eq_true, if_false, reduceIte] at CK0
  have CK := Go.Lib.hid CK0
  clear hT hV CK0 hC
  unfold msgV mK mm0 at CK
  simp only [List.toArray, List.length_nil, List.length_cons] at CK
  go_enter Tryd.func6, Tryd.ntmps6
  go_wp2_with fail
  refine (mawake_any _ HT.out).mono ?_
  rintro e w1 ⟨rfl, hb1⟩
  have hT1 := HT.out.grow hb1
  have B2 : Below w.heap.size w (w1.alloc (.cells #[(.int .i64 kind), (.int .u64 0), (.int .u64 0), (.int .i64 0), (.int .i64 0), (.int .u64 0), (.int .u64 0), (.int .u64 0), (.int .i64 0), (.slice none 0 0), (.slice none 0 0)] 32)) := NB.bel hb1 (oneB w1 _) hb1.size
  have B3 : Below w.heap.size w ((w1.alloc (.cells #[(.int .i64 kind), (.int .u64 0), (.int .u64 0), (.int .i64 0), (.int .i64 0), (.int .u64 0), (.int .u64 0), (.int .u64 0), (.int .i64 0), (.slice none 0 0), (.slice none 0 0)] 32)).alloc (.cells #[.string (ByteArray.mk #[]), .string (ByteArray.mk #[104, 103, 99, 113, 120]), .string (ByteArray.mk #[104, 103, 99, 113, 112, 100]), .string (ByteArray.mk #[104, 103, 99, 113, 112, 120]), .string (ByteArray.mk #[104, 103, 112]), .string (ByteArray.mk #[104, 103, 112]), .string (ByteArray.mk #[104, 103, 118]), .string (ByteArray.mk #[98, 115]), .string (ByteArray.mk #[98, 115, 120]), .string (ByteArray.mk #[98, 115, 120]), .string (ByteArray.mk #[98, 115]), .string (ByteArray.mk #[98]), .string (ByteArray.mk #[115, 120]), .string (ByteArray.mk #[115]), .string (ByteArray.mk #[99, 113, 112]), .string (ByteArray.mk #[104, 103, 99, 113, 112, 100, 120]), .string (ByteArray.mk #[104, 103, 99, 113, 112, 100]), .string (ByteArray.mk #[99, 113, 112, 100]), .string (ByteArray.mk #[98, 115])] 9)) := NB.bel B2 (oneB (w1.alloc (.cells #[(.int .i64 kind), (.int .u64 0), (.int .u64 0), (.int .i64 0), (.int .i64 0), (.int .u64 0), (.int .u64 0), (.int .u64 0), (.int .i64 0), (.slice none 0 0), (.slice none 0 0)] 32)) _) B2.size
  have R3 : Rw ((w1.alloc (.cells #[(.int .i64 kind), (.int .u64 0), (.int .u64 0), (.int .i64 0), (.int .i64 0), (.int .u64 0), (.int .u64 0), (.int .u64 0), (.int .i64 0), (.slice none 0 0), (.slice none 0 0)] 32)).alloc (.cells #[.string (ByteArray.mk #[]), .string (ByteArray.mk #[104, 103, 99, 113, 120]), .string (ByteArray.mk #[104, 103, 99, 113, 112, 100]), .string (ByteArray.mk #[104, 103, 99, 113, 112, 120]), .string (ByteArray.mk #[104, 103, 112]), .string (ByteArray.mk #[104, 103, 112]), .string (ByteArray.mk #[104, 103, 118]), .string (ByteArray.mk #[98, 115]), .string (ByteArray.mk #[98, 115, 120]), .string (ByteArray.mk #[98, 115, 120]), .string (ByteArray.mk #[98, 115]), .string (ByteArray.mk #[98]), .string (ByteArray.mk #[115, 120]), .string (ByteArray.mk #[115]), .string (ByteArray.mk #[99, 113, 112]), .string (ByteArray.mk #[104, 103, 99, 113, 112, 100, 120]), .string (ByteArray.mk #[104, 103, 99, 113, 112, 100]), .string (ByteArray.mk #[99, 113, 112, 100]), .string (ByteArray.mk #[98, 115])] 9)) w1.heap.size [(.int .i64 kind), (.int .u64 0), (.int .u64 0), (.int .i64 0), (.int .i64 0), (.int .u64 0), (.int .u64 0), (.int .u64 0), (.int .i64 0), (.slice none 0 0), (.slice none 0 0)] 32 := (NB.rw_new w1 _ 32 rfl).below (oneB (w1.alloc (.cells #[(.int .i64 kind), (.int .u64 0), (.int .u64 0), (.int .i64 0), (.int .i64 0), (.int .u64 0), (.int .u64 0), (.int .u64 0), (.int .i64 0), (.slice none 0 0), (.slice none 0 0)] 32)) _)
  have z2 : (w1.alloc (.cells #[(.int .i64 kind), (.int .u64 0), (.int .u64 0), (.int .i64 0), (.int .i64 0), (.int .u64 0), (.int .u64 0), (.int .u64 0), (.int .i64 0), (.slice none 0 0), (.slice none 0 0)] 32)).heap.size = w1.heap.size + 1 := by simp
  have B4 : Below w.heap.size w (((w1.alloc (.cells #[(.int .i64 kind), (.int .u64 0), (.int .u64 0), (.int .i64 0), (.int .i64 0), (.int .u64 0), (.int .u64 0), (.int .u64 0), (.int .i64 0), (.slice none 0 0), (.slice none 0 0)] 32)).alloc (.cells #[.string (ByteArray.mk #[]), .string (ByteArray.mk #[104, 103, 99, 113, 120]), .string (ByteArray.mk #[104, 103, 99, 113, 112, 100]), .string (ByteArray.mk #[104, 103, 99, 113, 112, 120]), .string (ByteArray.mk #[104, 103, 112]), .string (ByteArray.mk #[104, 103, 112]), .string (ByteArray.mk #[104, 103, 118]), .string (ByteArray.mk #[98, 115]), .string (ByteArray.mk #[98, 115, 120]), .string (ByteArray.mk #[98, 115, 120]), .string (ByteArray.mk #[98, 115]), .string (ByteArray.mk #[98]), .string (ByteArray.mk #[115, 120]), .string (ByteArray.mk #[115]), .string (ByteArray.mk #[99, 113, 112]), .string (ByteArray.mk #[104, 103, 99, 113, 112, 100, 120]), .string (ByteArray.mk #[104, 103, 99, 113, 112, 100]), .string (ByteArray.mk #[99, 113, 112, 100]), .string (ByteArray.mk #[98, 115])] 9)).alloc (.cells #[.int .u8 0] 5)) := NB.bel B3 (oneB ((w1.alloc (.cells #[(.int .i64 kind), (.int .u64 0), (.int .u64 0), (.int .i64 0), (.int .i64 0), (.int .u64 0), (.int .u64 0), (.int .u64 0), (.int .i64 0), (.slice none 0 0), (.slice none 0 0)] 32)).alloc (.cells #[.string (ByteArray.mk #[]), .string (ByteArray.mk #[104, 103, 99, 113, 120]), .string (ByteArray.mk #[104, 103, 99, 113, 112, 100]), .string (ByteArray.mk #[104, 103, 99, 113, 112, 120]), .string (ByteArray.mk #[104, 103, 112]), .string (ByteArray.mk #[104, 103, 112]), .string (ByteArray.mk #[104, 103, 118]), .string (ByteArray.mk #[98, 115]), .string (ByteArray.mk #[98, 115, 120]), .string (ByteArray.mk #[98, 115, 120]), .string (ByteArray.mk #[98, 115]), .string (ByteArray.mk #[98]), .string (ByteArray.mk #[115, 120]), .string (ByteArray.mk #[115]), .string (ByteArray.mk #[99, 113, 112]), .string (ByteArray.mk #[104, 103, 99, 113, 112, 100, 120]), .string (ByteArray.mk #[104, 103, 99, 113, 112, 100]), .string (ByteArray.mk #[99, 113, 112, 100]), .string (ByteArray.mk #[98, 115])] 9)) _) B3.size
  have R4 : Rw (((w1.alloc (.cells #[(.int .i64 kind), (.int .u64 0), (.int .u64 0), (.int .i64 0), (.int .i64 0), (.int .u64 0), (.int .u64 0), (.int .u64 0), (.int .i64 0), (.slice none 0 0), (.slice none 0 0)] 32)).alloc (.cells #[.string (ByteArray.mk #[]), .string (ByteArray.mk #[104, 103, 99, 113, 120]), .string (ByteArray.mk #[104, 103, 99, 113, 112, 100]), .string (ByteArray.mk #[104, 103, 99, 113, 112, 120]), .string (ByteArray.mk #[104, 103, 112]), .string (ByteArray.mk #[104, 103, 112]), .string (ByteArray.mk #[104, 103, 118]), .string (ByteArray.mk #[98, 115]), .string (ByteArray.mk #[98, 115, 120]), .string (ByteArray.mk #[98, 115, 120]), .string (ByteArray.mk #[98, 115]), .string (ByteArray.mk #[98]), .string (ByteArray.mk #[115, 120]), .string (ByteArray.mk #[115]), .string (ByteArray.mk #[99, 113, 112]), .string (ByteArray.mk #[104, 103, 99, 113, 112, 100, 120]), .string (ByteArray.mk #[104, 103, 99, 113, 112, 100]), .string (ByteArray.mk #[99, 113, 112, 100]), .string (ByteArray.mk #[98, 115])] 9)).alloc (.cells #[.int .u8 0] 5)) w1.heap.size [(.int .i64 kind), (.int .u64 0), (.int .u64 0), (.int .i64 0), (.int .i64 0), (.int .u64 0), (.int .u64 0), (.int .u64 0), (.int .i64 0), (.slice none 0 0), (.slice none 0 0)] 32 := R3.below (oneB ((w1.alloc (.cells #[(.int .i64 kind), (.int .u64 0), (.int .u64 0), (.int .i64 0), (.int .i64 0), (.int .u64 0), (.int .u64 0), (.int .u64 0), (.int .i64 0), (.slice none 0 0), (.slice none 0 0)] 32)).alloc (.cells #[.string (ByteArray.mk #[]), .string (ByteArray.mk #[104, 103, 99, 113, 120]), .string (ByteArray.mk #[104, 103, 99, 113, 112, 100]), .string (ByteArray.mk #[104, 103, 99, 113, 112, 120]), .string (ByteArray.mk #[104, 103, 112]), .string (ByteArray.mk #[104, 103, 112]), .string (ByteArray.mk #[104, 103, 118]), .string (ByteArray.mk #[98, 115]), .string (ByteArray.mk #[98, 115, 120]), .string (ByteArray.mk #[98, 115, 120]), .string (ByteArray.mk #[98, 115]), .string (ByteArray.mk #[98]), .string (ByteArray.mk #[115, 120]), .string (ByteArray.mk #[115]), .string (ByteArray.mk #[99, 113, 112]), .string (ByteArray.mk #[104, 103, 99, 113, 112, 100, 120]), .string (ByteArray.mk #[104, 103, 99, 113, 112, 100]), .string (ByteArray.mk #[99, 113, 112, 100]), .string (ByteArray.mk #[98, 115])] 9)) _)
  have z4 : ((w1.alloc (.cells #[(.int .i64 kind), (.int .u64 0), (.int .u64 0), (.int .i64 0), (.int .i64 0), (.int .u64 0), (.int .u64 0), (.int .u64 0), (.int .i64 0), (.slice none 0 0), (.slice none 0 0)] 32)).alloc (.cells #[.string (ByteArray.mk #[]), .string (ByteArray.mk #[104, 103, 99, 113, 120]), .string (ByteArray.mk #[104, 103, 99, 113, 112, 100]), .string (ByteArray.mk #[104, 103, 99, 113, 112, 120]), .string (ByteArray.mk #[104, 103, 112]), .string (ByteArray.mk #[104, 103, 112]), .string (ByteArray.mk #[104, 103, 118]), .string (ByteArray.mk #[98, 115]), .string (ByteArray.mk #[98, 115, 120]), .string (ByteArray.mk #[98, 115, 120]), .string (ByteArray.mk #[98, 115]), .string (ByteArray.mk #[98]), .string (ByteArray.mk #[115, 120]), .string (ByteArray.mk #[115]), .string (ByteArray.mk #[99, 113, 112]), .string (ByteArray.mk #[104, 103, 99, 113, 112, 100, 120]), .string (ByteArray.mk #[104, 103, 99, 113, 112, 100]), .string (ByteArray.mk #[99, 113, 112, 100]), .string (ByteArray.mk #[98, 115])] 9)).heap.size = w1.heap.size + 2 := by simp
  have c10 := R4.cell 10 _ rfl
  have f10 := R4.free 10
  have B5 : Below w.heap.size w (((w1.alloc (.cells #[(.int .i64 kind), (.int .u64 0), (.int .u64 0), (.int .i64 0), (.int .i64 0), (.int .u64 0), (.int .u64 0), (.int .u64 0), (.int .i64 0), (.slice none 0 0), (.slice (some ⟨w1.heap.size + 2, 0, none⟩) 1 1)] 32)).alloc (.cells #[.string (ByteArray.mk #[]), .string (ByteArray.mk #[104, 103, 99, 113, 120]), .string (ByteArray.mk #[104, 103, 99, 113, 112, 100]), .string (ByteArray.mk #[104, 103, 99, 113, 112, 120]), .string (ByteArray.mk #[104, 103, 112]), .string (ByteArray.mk #[104, 103, 112]), .string (ByteArray.mk #[104, 103, 118]), .string (ByteArray.mk #[98, 115]), .string (ByteArray.mk #[98, 115, 120]), .string (ByteArray.mk #[98, 115, 120]), .string (ByteArray.mk #[98, 115]), .string (ByteArray.mk #[98]), .string (ByteArray.mk #[115, 120]), .string (ByteArray.mk #[115]), .string (ByteArray.mk #[99, 113, 112]), .string (ByteArray.mk #[104, 103, 99, 113, 112, 100, 120]), .string (ByteArray.mk #[104, 103, 99, 113, 112, 100]), .string (ByteArray.mk #[99, 113, 112, 100]), .string (ByteArray.mk #[98, 115])] 9)).alloc (.cells #[.int .u8 0] 5)) := NB.bel (NB.bel (NB.bel hb1 (oneB w1 _) hb1.size) (oneB (w1.alloc (.cells #[(.int .i64 kind), (.int .u64 0), (.int .u64 0), (.int .i64 0), (.int .i64 0), (.int .u64 0), (.int .u64 0), (.int .u64 0), (.int .i64 0), (.slice none 0 0), (.slice (some ⟨w1.heap.size + 2, 0, none⟩) 1 1)] 32)) _) (NB.bel hb1 (oneB w1 _) hb1.size).size) (oneB ((w1.alloc (.cells #[(.int .i64 kind), (.int .u64 0), (.int .u64 0), (.int .i64 0), (.int .i64 0), (.int .u64 0), (.int .u64 0), (.int .u64 0), (.int .i64 0), (.slice none 0 0), (.slice (some ⟨w1.heap.size + 2, 0, none⟩) 1 1)] 32)).alloc (.cells #[.string (ByteArray.mk #[]), .string (ByteArray.mk #[104, 103, 99, 113, 120]), .string (ByteArray.mk #[104, 103, 99, 113, 112, 100]), .string (ByteArray.mk #[104, 103, 99, 113, 112, 120]), .string (ByteArray.mk #[104, 103, 112]), .string (ByteArray.mk #[104, 103, 112]), .string (ByteArray.mk #[104, 103, 118]), .string (ByteArray.mk #[98, 115]), .string (ByteArray.mk #[98, 115, 120]), .string (ByteArray.mk #[98, 115, 120]), .string (ByteArray.mk #[98, 115]), .string (ByteArray.mk #[98]), .string (ByteArray.mk #[115, 120]), .string (ByteArray.mk #[115]), .string (ByteArray.mk #[99, 113, 112]), .string (ByteArray.mk #[104, 103, 99, 113, 112, 100, 120]), .string (ByteArray.mk #[104, 103, 99, 113, 112, 100]), .string (ByteArray.mk #[99, 113, 112, 100]), .string (ByteArray.mk #[98, 115])] 9)) _) (NB.bel (NB.bel hb1 (oneB w1 _) hb1.size) (oneB (w1.alloc (.cells #[(.int .i64 kind), (.int .u64 0), (.int .u64 0), (.int .i64 0), (.int .i64 0), (.int .u64 0), (.int .u64 0), (.int .u64 0), (.int .i64 0), (.slice none 0 0), (.slice (some ⟨w1.heap.size + 2, 0, none⟩) 1 1)] 32)) _) (NB.bel hb1 (oneB w1 _) hb1.size).size).size
  have R5 : Rw (((w1.alloc (.cells #[(.int .i64 kind), (.int .u64 0), (.int .u64 0), (.int .i64 0), (.int .i64 0), (.int .u64 0), (.int .u64 0), (.int .u64 0), (.int .i64 0), (.slice none 0 0), (.slice (some ⟨w1.heap.size + 2, 0, none⟩) 1 1)] 32)).alloc (.cells #[.string (ByteArray.mk #[]), .string (ByteArray.mk #[104, 103, 99, 113, 120]), .string (ByteArray.mk #[104, 103, 99, 113, 112, 100]), .string (ByteArray.mk #[104, 103, 99, 113, 112, 120]), .string (ByteArray.mk #[104, 103, 112]), .string (ByteArray.mk #[104, 103, 112]), .string (ByteArray.mk #[104, 103, 118]), .string (ByteArray.mk #[98, 115]), .string (ByteArray.mk #[98, 115, 120]), .string (ByteArray.mk #[98, 115, 120]), .string (ByteArray.mk #[98, 115]), .string (ByteArray.mk #[98]), .string (ByteArray.mk #[115, 120]), .string (ByteArray.mk #[115]), .string (ByteArray.mk #[99, 113, 112]), .string (ByteArray.mk #[104, 103, 99, 113, 112, 100, 120]), .string (ByteArray.mk #[104, 103, 99, 113, 112, 100]), .string (ByteArray.mk #[99, 113, 112, 100]), .string (ByteArray.mk #[98, 115])] 9)).alloc (.cells #[.int .u8 0] 5)) w1.heap.size [(.int .i64 kind), (.int .u64 0), (.int .u64 0), (.int .i64 0), (.int .i64 0), (.int .u64 0), (.int .u64 0), (.int .u64 0), (.int .i64 0), (.slice none 0 0), (.slice (some ⟨w1.heap.size + 2, 0, none⟩) 1 1)] 32 := ((NB.rw_new w1 _ 32 rfl).below (oneB (w1.alloc (.cells #[(.int .i64 kind), (.int .u64 0), (.int .u64 0), (.int .i64 0), (.int .i64 0), (.int .u64 0), (.int .u64 0), (.int .u64 0), (.int .i64 0), (.slice none 0 0), (.slice (some ⟨w1.heap.size + 2, 0, none⟩) 1 1)] 32)) _)).below (oneB ((w1.alloc (.cells #[(.int .i64 kind), (.int .u64 0), (.int .u64 0), (.int .i64 0), (.int .i64 0), (.int .u64 0), (.int .u64 0), (.int .u64 0), (.int .i64 0), (.slice none 0 0), (.slice (some ⟨w1.heap.size + 2, 0, none⟩) 1 1)] 32)).alloc (.cells #[.string (ByteArray.mk #[]), .string (ByteArray.mk #[104, 103, 99, 113, 120]), .string (ByteArray.mk #[104, 103, 99, 113, 112, 100]), .string (ByteArray.mk #[104, 103, 99, 113, 112, 120]), .string (ByteArray.mk #[104, 103, 112]), .string (ByteArray.mk #[104, 103, 112]), .string (ByteArray.mk #[104, 103, 118]), .string (ByteArray.mk #[98, 115]), .string (ByteArray.mk #[98, 115, 120]), .string (ByteArray.mk #[98, 115, 120]), .string (ByteArray.mk #[98, 115]), .string (ByteArray.mk #[98]), .string (ByteArray.mk #[115, 120]), .string (ByteArray.mk #[115]), .string (ByteArray.mk #[99, 113, 112]), .string (ByteArray.mk #[104, 103, 99, 113, 112, 100, 120]), .string (ByteArray.mk #[104, 103, 99, 113, 112, 100]), .string (ByteArray.mk #[99, 113, 112, 100]), .string (ByteArray.mk #[98, 115])] 9)) _)
  have hT5 := HT.out.grow B5
  have l5 := R5.lt
  clear R3 B2 B3 R4 B4 hb1 hT1
  go_wp2_with fail
  go_loopw [10, 11] (fun x y wr => x = .bool false ∧ y = .int .i64 0 ∧ Below w.heap.size w wr ∧ Rw wr w1.heap.size [(.int .i64 kind), (.int .u64 0), (.int .u64 0), (.int .i64 0), (.int .i64 0), (.int .u64 0), (.int .u64 0), (.int .u64 0), (.int .i64 0), (.slice none 0 0), (.slice (some ⟨w1.heap.size + 2, 0, none⟩) 1 1)] 32) (fun _ _ _ => 0)
  case atStart => exact ⟨rfl, rfl, B5, R5⟩
  case round =>
    obtain ⟨rfl, rfl, BR, RR⟩ := hrel
    clear B5 R5 hT5 hm
    have e0 := RR.cell 0 _ rfl
    have e1 := RR.cell 1 _ rfl
    have e2 := RR.cell 2 _ rfl
    have e3 := RR.cell 3 _ rfl
    have e4 := RR.cell 4 _ rfl
    have e5 := RR.cell 5 _ rfl
    have e6 := RR.cell 6 _ rfl
    have e7 := RR.cell 7 _ rfl
    have e8 := RR.cell 8 _ rfl
    have e9 := RR.cell 9 _ rfl
    have e10 := RR.cell 10 _ rfl
    go_wp2_with fail
    refine (CK.out _ (HT.out.grow BR) none 0 (some ⟨w1.heap.size + 2, 0, none⟩) 1).mono ?_
    rintro e w9 ⟨rfl, hb9⟩
    have B9 := NB.bel BR hb9 BR.size
    go_wp2_with fail
    go_ret
    exact ⟨rfl, B9⟩
end Go.Proofs.YtadgokegjmigoaaDoor
