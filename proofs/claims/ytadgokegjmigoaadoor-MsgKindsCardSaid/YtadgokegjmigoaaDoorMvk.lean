/- The law MsgKinds. -/
import Derived.Test.YtadgokegjmigoaaDoorMgw
import Derived.Test.YtadgokegjmigoaaDoorTail
namespace Go.Proofs.YtadgokegjmigoaaDoor
open Go.RowKit Go.Shelf
open Go.NB (Rd Kp Stp Off Dis oneB dB Rw RdU Lp Rr encU encB digs)

def ltr : List UInt8 := [98, 115, 104, 103, 99, 113, 112, 100, 118, 120]
def strK : List (List UInt8) := [[], [104, 103, 99, 113, 120], [104, 103, 99, 113, 112, 100], [104, 103, 99, 113, 112, 120], [104, 103, 112], [104, 103, 112], [104, 103, 118], [98, 115], [98, 115, 120], [98, 115, 120], [98, 115], [98], [115, 120], [115], [99, 113, 112], [104, 103, 99, 113, 112, 100, 120], [104, 103, 99, 113, 112, 100], [99, 113, 112, 100], [98, 115]]
/-- A message with the one field f. -/
def mK (k : Int) (f : Nat) : Mm :=
  match f with
  | 0 => { mm0 with kind := k, ballot := 1 }
  | 1 => { mm0 with kind := k, slot := 1 }
  | 2 => { mm0 with kind := k, shard := 1 }
  | 3 => { mm0 with kind := k, seg := 1 }
  | 4 => { mm0 with kind := k, client := 1 }
  | 5 => { mm0 with kind := k, seq := 1 }
  | 6 => { mm0 with kind := k, pos := 1 }
  | 7 => { mm0 with kind := k, code := 1 }
  | 8 => { mm0 with kind := k, vec := [0] }
  | _ => { mm0 with kind := k, body := [0] }
theorem mK_in : ∀ k, k < 19 → 1 ≤ k → ∀ f, f < 10 → mcheckM (mK ((k : Nat) : Int) f) = if (strK.getD k []).any (· == ltr.getD f 0) = true then 0 else 1 := by decide +kernel
theorem mK_out (k : Int) (h : known k = false) (f : Nat) : mcheckM (mK k f) = 1 := by
  have : (mK k f).kind = k := by unfold mK; split <;> rfl
  unfold mcheckM mcheckB
  rw [this, h]; rfl
def strV : List Value := [.string (ByteArray.mk #[]), .string (ByteArray.mk #[104, 103, 99, 113, 120]), .string (ByteArray.mk #[104, 103, 99, 113, 112, 100]), .string (ByteArray.mk #[104, 103, 99, 113, 112, 120]), .string (ByteArray.mk #[104, 103, 112]), .string (ByteArray.mk #[104, 103, 112]), .string (ByteArray.mk #[104, 103, 118]), .string (ByteArray.mk #[98, 115]), .string (ByteArray.mk #[98, 115, 120]), .string (ByteArray.mk #[98, 115, 120]), .string (ByteArray.mk #[98, 115]), .string (ByteArray.mk #[98]), .string (ByteArray.mk #[115, 120]), .string (ByteArray.mk #[115]), .string (ByteArray.mk #[99, 113, 112]), .string (ByteArray.mk #[104, 103, 99, 113, 112, 100, 120]), .string (ByteArray.mk #[104, 103, 99, 113, 112, 100]), .string (ByteArray.mk #[99, 113, 112, 100]), .string (ByteArray.mk #[98, 115])]
theorem strV_at (k : Nat) (h : k < 19) : strV[k]? = some (.string (ByteArray.mk (strK.getD k []).toArray)) := by
  have h1 : strV = strK.map (fun l => Value.string (ByteArray.mk l.toArray)) := rfl
  have h2 : strK[k]? = some (strK.getD k []) := by
    rw [List.getElem?_eq_getElem (show k < strK.length from h)]
    simp [List.getD, List.getElem?_eq_getElem (show k < strK.length from h)]
  rw [h1, List.getElem?_map, h2]; rfl
theorem byte_eq (x c : UInt8) : ((x.toNat : Int) == (c.toNat : Int)) = (x == c) := by
  by_cases h : x = c
  · subst h; simp
  · have h1 : x.toNat ≠ c.toNat := fun e => h (UInt8.toNat_inj.1 e)
    rw [beq_false_of_ne h, beq_false_of_ne (by omega)]
theorem strK_len : ∀ k, k < 19 → (strK.getD k []).length ≤ 7 := by decide

set_option maxRecDepth 100000 in
set_option maxHeartbeats 4000000 in
theorem kinds_B0 (w : World) (hT : Tb w) (kind wh : Int) (hw0 : 0 ≤ wh) (hw1 : wh < 256) (hm : wh % 10 = 0) (V : Bool) (S : List UInt8) (hS : S.length ≤ 7) (kk : Nat) (hkk : kind = (kk : Int)) (h1 : 1 ≤ kk) (h2 : kk ≤ 18) (hSB : S = strK.getD kk [])
    (hV : S.any (· == ltr.getD 0 0) = V) (hC : mcheckM (mK kind 0) = if V = true then 0 else 1) :
    Calls Tryd.prog 6 #[.int .i64 kind, .int .u8 wh] w fun e w' => e = .returned (.bool true) ∧ Below w.heap.size w w' := by
  have HT := Go.Lib.hid hT
  have HV := Go.Lib.hid hV
  have ck := fun W hT av cv ab cb => mcheck_any W hT (mK kind 0) av cv ab cb
  rw [hC] at ck
  subst hkk
  have hSl : S.length ≤ 7 := hS
  have sa := strV_at kk (by omega)
  rw [← hSB] at sa
  have SA := Go.Lib.hid sa
  clear sa hSB
  have hk1 : (1 : Int) ≤ (kk : Int) := by omega
  have hk2 : (kk : Int) ≤ 18 := by omega
  have CK := Go.Lib.hid ck
  clear hT hV ck hC
  unfold msgV mK mm0 at CK
  simp only [List.toArray, List.length_nil, List.length_cons] at CK
  go_enter Tryd.func6, Tryd.ntmps6
  go_wp2_with fail
  refine (mawake_any _ HT.out).mono ?_
  rintro e w1 ⟨rfl, hb1⟩
  have hT1 := HT.out.grow hb1
  have B2 : Below w.heap.size w (w1.alloc (.cells #[(.int .i64 (kk : Int)), (.int .u64 0), (.int .u64 0), (.int .i64 0), (.int .i64 0), (.int .u64 0), (.int .u64 0), (.int .u64 0), (.int .i64 0), (.slice none 0 0), (.slice none 0 0)] 32)) := NB.bel hb1 (oneB w1 _) hb1.size
  have B3 : Below w.heap.size w ((w1.alloc (.cells #[(.int .i64 (kk : Int)), (.int .u64 0), (.int .u64 0), (.int .i64 0), (.int .i64 0), (.int .u64 0), (.int .u64 0), (.int .u64 0), (.int .i64 0), (.slice none 0 0), (.slice none 0 0)] 32)).alloc (.cells #[.string (ByteArray.mk #[]), .string (ByteArray.mk #[104, 103, 99, 113, 120]), .string (ByteArray.mk #[104, 103, 99, 113, 112, 100]), .string (ByteArray.mk #[104, 103, 99, 113, 112, 120]), .string (ByteArray.mk #[104, 103, 112]), .string (ByteArray.mk #[104, 103, 112]), .string (ByteArray.mk #[104, 103, 118]), .string (ByteArray.mk #[98, 115]), .string (ByteArray.mk #[98, 115, 120]), .string (ByteArray.mk #[98, 115, 120]), .string (ByteArray.mk #[98, 115]), .string (ByteArray.mk #[98]), .string (ByteArray.mk #[115, 120]), .string (ByteArray.mk #[115]), .string (ByteArray.mk #[99, 113, 112]), .string (ByteArray.mk #[104, 103, 99, 113, 112, 100, 120]), .string (ByteArray.mk #[104, 103, 99, 113, 112, 100]), .string (ByteArray.mk #[99, 113, 112, 100]), .string (ByteArray.mk #[98, 115])] 9)) := NB.bel B2 (oneB (w1.alloc (.cells #[(.int .i64 (kk : Int)), (.int .u64 0), (.int .u64 0), (.int .i64 0), (.int .i64 0), (.int .u64 0), (.int .u64 0), (.int .u64 0), (.int .i64 0), (.slice none 0 0), (.slice none 0 0)] 32)) _) B2.size
  have R3 : Rw ((w1.alloc (.cells #[(.int .i64 (kk : Int)), (.int .u64 0), (.int .u64 0), (.int .i64 0), (.int .i64 0), (.int .u64 0), (.int .u64 0), (.int .u64 0), (.int .i64 0), (.slice none 0 0), (.slice none 0 0)] 32)).alloc (.cells #[.string (ByteArray.mk #[]), .string (ByteArray.mk #[104, 103, 99, 113, 120]), .string (ByteArray.mk #[104, 103, 99, 113, 112, 100]), .string (ByteArray.mk #[104, 103, 99, 113, 112, 120]), .string (ByteArray.mk #[104, 103, 112]), .string (ByteArray.mk #[104, 103, 112]), .string (ByteArray.mk #[104, 103, 118]), .string (ByteArray.mk #[98, 115]), .string (ByteArray.mk #[98, 115, 120]), .string (ByteArray.mk #[98, 115, 120]), .string (ByteArray.mk #[98, 115]), .string (ByteArray.mk #[98]), .string (ByteArray.mk #[115, 120]), .string (ByteArray.mk #[115]), .string (ByteArray.mk #[99, 113, 112]), .string (ByteArray.mk #[104, 103, 99, 113, 112, 100, 120]), .string (ByteArray.mk #[104, 103, 99, 113, 112, 100]), .string (ByteArray.mk #[99, 113, 112, 100]), .string (ByteArray.mk #[98, 115])] 9)) w1.heap.size [(.int .i64 (kk : Int)), (.int .u64 0), (.int .u64 0), (.int .i64 0), (.int .i64 0), (.int .u64 0), (.int .u64 0), (.int .u64 0), (.int .i64 0), (.slice none 0 0), (.slice none 0 0)] 32 := (NB.rw_new w1 _ 32 rfl).below (oneB (w1.alloc (.cells #[(.int .i64 (kk : Int)), (.int .u64 0), (.int .u64 0), (.int .i64 0), (.int .i64 0), (.int .u64 0), (.int .u64 0), (.int .u64 0), (.int .i64 0), (.slice none 0 0), (.slice none 0 0)] 32)) _)
  have z2 : (w1.alloc (.cells #[(.int .i64 (kk : Int)), (.int .u64 0), (.int .u64 0), (.int .i64 0), (.int .i64 0), (.int .u64 0), (.int .u64 0), (.int .u64 0), (.int .i64 0), (.slice none 0 0), (.slice none 0 0)] 32)).heap.size = w1.heap.size + 1 := by simp
  have q0 : ((w1.alloc (.cells #[(.int .i64 (kk : Int)), (.int .u64 0), (.int .u64 0), (.int .i64 0), (.int .i64 0), (.int .u64 0), (.int .u64 0), (.int .u64 0), (.int .i64 0), (.slice none 0 0), (.slice none 0 0)] 32)).alloc (.cells #[.string (ByteArray.mk #[]), .string (ByteArray.mk #[104, 103, 99, 113, 120]), .string (ByteArray.mk #[104, 103, 99, 113, 112, 100]), .string (ByteArray.mk #[104, 103, 99, 113, 112, 120]), .string (ByteArray.mk #[104, 103, 112]), .string (ByteArray.mk #[104, 103, 112]), .string (ByteArray.mk #[104, 103, 118]), .string (ByteArray.mk #[98, 115]), .string (ByteArray.mk #[98, 115, 120]), .string (ByteArray.mk #[98, 115, 120]), .string (ByteArray.mk #[98, 115]), .string (ByteArray.mk #[98]), .string (ByteArray.mk #[115, 120]), .string (ByteArray.mk #[115]), .string (ByteArray.mk #[99, 113, 112]), .string (ByteArray.mk #[104, 103, 99, 113, 112, 100, 120]), .string (ByteArray.mk #[104, 103, 99, 113, 112, 100]), .string (ByteArray.mk #[99, 113, 112, 100]), .string (ByteArray.mk #[98, 115])] 9)).cell? ⟨w1.heap.size + 1, kk, none⟩ = some (.string (ByteArray.mk S.toArray)) := by
    have r : Rw ((w1.alloc (.cells #[(.int .i64 (kk : Int)), (.int .u64 0), (.int .u64 0), (.int .i64 0), (.int .i64 0), (.int .u64 0), (.int .u64 0), (.int .u64 0), (.int .i64 0), (.slice none 0 0), (.slice none 0 0)] 32)).alloc (.cells #[.string (ByteArray.mk #[]), .string (ByteArray.mk #[104, 103, 99, 113, 120]), .string (ByteArray.mk #[104, 103, 99, 113, 112, 100]), .string (ByteArray.mk #[104, 103, 99, 113, 112, 120]), .string (ByteArray.mk #[104, 103, 112]), .string (ByteArray.mk #[104, 103, 112]), .string (ByteArray.mk #[104, 103, 118]), .string (ByteArray.mk #[98, 115]), .string (ByteArray.mk #[98, 115, 120]), .string (ByteArray.mk #[98, 115, 120]), .string (ByteArray.mk #[98, 115]), .string (ByteArray.mk #[98]), .string (ByteArray.mk #[115, 120]), .string (ByteArray.mk #[115]), .string (ByteArray.mk #[99, 113, 112]), .string (ByteArray.mk #[104, 103, 99, 113, 112, 100, 120]), .string (ByteArray.mk #[104, 103, 99, 113, 112, 100]), .string (ByteArray.mk #[99, 113, 112, 100]), .string (ByteArray.mk #[98, 115])] 9)) (w1.alloc (.cells #[(.int .i64 (kk : Int)), (.int .u64 0), (.int .u64 0), (.int .i64 0), (.int .i64 0), (.int .u64 0), (.int .u64 0), (.int .u64 0), (.int .i64 0), (.slice none 0 0), (.slice none 0 0)] 32)).heap.size strV 9 := NB.rw_new (w1.alloc (.cells #[(.int .i64 (kk : Int)), (.int .u64 0), (.int .u64 0), (.int .i64 0), (.int .i64 0), (.int .u64 0), (.int .u64 0), (.int .u64 0), (.int .i64 0), (.slice none 0 0), (.slice none 0 0)] 32)) strV 9 rfl
    rw [z2] at r
    exact r.cell kk _ SA.out
  have c1 := R3.cell 1 _ rfl
  have f1 := R3.free 1
  have B5 : Below w.heap.size w ((w1.alloc (.cells #[(.int .i64 (kk : Int)), (.int .u64 1), (.int .u64 0), (.int .i64 0), (.int .i64 0), (.int .u64 0), (.int .u64 0), (.int .u64 0), (.int .i64 0), (.slice none 0 0), (.slice none 0 0)] 32)).alloc (.cells #[.string (ByteArray.mk #[]), .string (ByteArray.mk #[104, 103, 99, 113, 120]), .string (ByteArray.mk #[104, 103, 99, 113, 112, 100]), .string (ByteArray.mk #[104, 103, 99, 113, 112, 120]), .string (ByteArray.mk #[104, 103, 112]), .string (ByteArray.mk #[104, 103, 112]), .string (ByteArray.mk #[104, 103, 118]), .string (ByteArray.mk #[98, 115]), .string (ByteArray.mk #[98, 115, 120]), .string (ByteArray.mk #[98, 115, 120]), .string (ByteArray.mk #[98, 115]), .string (ByteArray.mk #[98]), .string (ByteArray.mk #[115, 120]), .string (ByteArray.mk #[115]), .string (ByteArray.mk #[99, 113, 112]), .string (ByteArray.mk #[104, 103, 99, 113, 112, 100, 120]), .string (ByteArray.mk #[104, 103, 99, 113, 112, 100]), .string (ByteArray.mk #[99, 113, 112, 100]), .string (ByteArray.mk #[98, 115])] 9)) := NB.bel (NB.bel hb1 (oneB w1 _) hb1.size) (oneB (w1.alloc (.cells #[(.int .i64 (kk : Int)), (.int .u64 1), (.int .u64 0), (.int .i64 0), (.int .i64 0), (.int .u64 0), (.int .u64 0), (.int .u64 0), (.int .i64 0), (.slice none 0 0), (.slice none 0 0)] 32)) _) (NB.bel hb1 (oneB w1 _) hb1.size).size
  have R5 : Rw ((w1.alloc (.cells #[(.int .i64 (kk : Int)), (.int .u64 1), (.int .u64 0), (.int .i64 0), (.int .i64 0), (.int .u64 0), (.int .u64 0), (.int .u64 0), (.int .i64 0), (.slice none 0 0), (.slice none 0 0)] 32)).alloc (.cells #[.string (ByteArray.mk #[]), .string (ByteArray.mk #[104, 103, 99, 113, 120]), .string (ByteArray.mk #[104, 103, 99, 113, 112, 100]), .string (ByteArray.mk #[104, 103, 99, 113, 112, 120]), .string (ByteArray.mk #[104, 103, 112]), .string (ByteArray.mk #[104, 103, 112]), .string (ByteArray.mk #[104, 103, 118]), .string (ByteArray.mk #[98, 115]), .string (ByteArray.mk #[98, 115, 120]), .string (ByteArray.mk #[98, 115, 120]), .string (ByteArray.mk #[98, 115]), .string (ByteArray.mk #[98]), .string (ByteArray.mk #[115, 120]), .string (ByteArray.mk #[115]), .string (ByteArray.mk #[99, 113, 112]), .string (ByteArray.mk #[104, 103, 99, 113, 112, 100, 120]), .string (ByteArray.mk #[104, 103, 99, 113, 112, 100]), .string (ByteArray.mk #[99, 113, 112, 100]), .string (ByteArray.mk #[98, 115])] 9)) w1.heap.size [(.int .i64 (kk : Int)), (.int .u64 1), (.int .u64 0), (.int .i64 0), (.int .i64 0), (.int .u64 0), (.int .u64 0), (.int .u64 0), (.int .i64 0), (.slice none 0 0), (.slice none 0 0)] 32 := (NB.rw_new w1 _ 32 rfl).below (oneB (w1.alloc (.cells #[(.int .i64 (kk : Int)), (.int .u64 1), (.int .u64 0), (.int .i64 0), (.int .i64 0), (.int .u64 0), (.int .u64 0), (.int .u64 0), (.int .i64 0), (.slice none 0 0), (.slice none 0 0)] 32)) _)
  have hT5 := HT.out.grow B5
  have l5 := R5.lt
  clear R3 B2 B3 hb1 hT1
  go_wp2_with fail
  go_loopw [10, 11] (fun x y wr => ∃ i : Nat, i ≤ S.length ∧ x = .bool ((S.take i).any (· == 98)) ∧ y = .int .i64 (i : Int) ∧ Below w.heap.size w wr ∧ Rw wr w1.heap.size [(.int .i64 (kk : Int)), (.int .u64 1), (.int .u64 0), (.int .i64 0), (.int .i64 0), (.int .u64 0), (.int .u64 0), (.int .u64 0), (.int .i64 0), (.slice none 0 0), (.slice none 0 0)] 32) (fun _ y _ => S.length - (intOf y).toNat)
  case atStart => exact ⟨0, by omega, rfl, rfl, B5, R5⟩
  case round =>
    obtain ⟨i, hi, rfl, rfl, BR, RR⟩ := hrel
    clear B5 R5 hT5 hm
    by_cases hlt : i < S.length
    case neg =>
      have hli : ¬ (i : Int) < (S.length : Int) := by omega
      rw [List.take_of_length_le (by omega)]
      have hv : S.any (· == 98) = V := HV.out
      rw [hv]
      clear hv
      have e0 := RR.cell 0 _ rfl
      have e1 := RR.cell 1 _ rfl
      have e2 := RR.cell 2 _ rfl
      have e3 := RR.cell 3 _ rfl
      have e4 := RR.cell 4 _ rfl
      have e5 := RR.cell 5 _ rfl
      have e6 := RR.cell 6 _ rfl
      have e7 := RR.cell 7 _ rfl
      have e8 := RR.cell 8 _ rfl
      have e9 := RR.cell 9 _ rfl
      have e10 := RR.cell 10 _ rfl
      cases V
      all_goals (
        simp only [Bool.false_eq_true, if_true, if_false, reduceIte] at CK
        go_wp2_with fail
        refine (CK.out _ (HT.out.grow BR) none 0 none 0).mono ?_
        rintro e w9 ⟨rfl, hb9⟩
        have B9 := NB.bel BR hb9 BR.size
        go_wp2_with fail
        go_ret
        exact ⟨rfl, B9⟩)
    have hli : (i : Int) < (S.length : Int) := by omega
    have htk : S.take (i + 1) = S.take i ++ [S[i]] := by rw [List.take_add_one, List.getElem?_eq_getElem hlt]; rfl
    have hix : S.toArray[i]? = some S[i] := by simp [hlt]
    obtain ⟨v, hv⟩ : ∃ v, (S.take i).any (· == 98) = v := ⟨_, rfl⟩
    rw [hv]
    have HN : (S.take (i + 1)).any (· == 98) = (v || S[i] == 98) := by rw [htk, List.any_append, hv]; simp
    have HN := Go.Lib.hid HN
    clear htk hv
    cases v
    · go_wp2_with fail
      refine NB.wp_region_t [] (by kernel_rfl) ?_
      refine NB.t_p 0 rfl (by kernel_rfl) (fun K hK => ?_); go_simp; refine hK _ ?_; clear hK K
      refine NB.t_p 1 rfl (by kernel_rfl) (fun K hK => ?_); go_simp; refine hK _ ?_; clear hK K
      refine NB.t_p 2 rfl (by kernel_rfl) (fun K hK => ?_); go_simp; refine hK _ ?_; clear hK K
      refine NB.t_p 3 rfl (by kernel_rfl) (fun K hK => ?_); go_simp; refine hK _ ?_; clear hK K
      refine NB.t_p 4 rfl (by kernel_rfl) (fun K hK => ?_); go_simp; refine hK _ ?_; clear hK K
      refine NB.t_p 5 rfl (by kernel_rfl) (fun K hK => ?_); go_simp; refine hK _ ?_; clear hK K
      refine NB.t_p 6 rfl (by kernel_rfl) (fun K hK => ?_); go_simp; refine hK _ ?_; clear hK K
      refine NB.t_p 7 rfl (by kernel_rfl) (fun K hK => ?_); go_simp; refine hK _ ?_; clear hK K
      refine NB.t_p 8 rfl (by kernel_rfl) (fun K hK => ?_); go_simp; refine hK _ ?_; clear hK K
      refine NB.t_p 9 rfl (by kernel_rfl) (fun K hK => ?_); go_simp; refine hK _ ?_; clear hK K
      refine NB.t_end (by kernel_rfl) ?_
      go_wp2_with fail
      go_round
      case rel => exact ⟨i + 1, by omega, by rw [HN.out, Bool.false_or]; exact congrArg Value.bool (byte_eq S[i] 98), by go_num, BR.trans (dB _ |>.mono BR.size), RR.below (dB _)⟩
      case measure => simp [intOf]; omega
    · go_wp2_with fail
      refine NB.wp_region_t [] (by kernel_rfl) ?_
      refine NB.t_p 0 rfl (by kernel_rfl) (fun K hK => ?_); go_simp; refine hK _ ?_; clear hK K
      refine NB.t_p 1 rfl (by kernel_rfl) (fun K hK => ?_); go_simp; refine hK _ ?_; clear hK K
      refine NB.t_p 2 rfl (by kernel_rfl) (fun K hK => ?_); go_simp; refine hK _ ?_; clear hK K
      refine NB.t_p 3 rfl (by kernel_rfl) (fun K hK => ?_); go_simp; refine hK _ ?_; clear hK K
      refine NB.t_p 4 rfl (by kernel_rfl) (fun K hK => ?_); go_simp; refine hK _ ?_; clear hK K
      refine NB.t_p 5 rfl (by kernel_rfl) (fun K hK => ?_); go_simp; refine hK _ ?_; clear hK K
      refine NB.t_p 6 rfl (by kernel_rfl) (fun K hK => ?_); go_simp; refine hK _ ?_; clear hK K
      refine NB.t_p 7 rfl (by kernel_rfl) (fun K hK => ?_); go_simp; refine hK _ ?_; clear hK K
      refine NB.t_p 8 rfl (by kernel_rfl) (fun K hK => ?_); go_simp; refine hK _ ?_; clear hK K
      refine NB.t_p 9 rfl (by kernel_rfl) (fun K hK => ?_); go_simp; refine hK _ ?_; clear hK K
      refine NB.t_end (by kernel_rfl) ?_
      go_wp2_with fail
      go_round
      case rel => exact ⟨i + 1, by omega, by rw [HN.out]; rfl, by go_num, BR.trans (dB _ |>.mono BR.size), RR.below (dB _)⟩
      case measure => simp [intOf]; omega

set_option maxRecDepth 100000 in
set_option maxHeartbeats 4000000 in
theorem kinds_B1 (w : World) (hT : Tb w) (kind wh : Int) (hw0 : 0 ≤ wh) (hw1 : wh < 256) (hm : wh % 10 = 1) (V : Bool) (S : List UInt8) (hS : S.length ≤ 7) (kk : Nat) (hkk : kind = (kk : Int)) (h1 : 1 ≤ kk) (h2 : kk ≤ 18) (hSB : S = strK.getD kk [])
    (hV : S.any (· == ltr.getD 1 0) = V) (hC : mcheckM (mK kind 1) = if V = true then 0 else 1) :
    Calls Tryd.prog 6 #[.int .i64 kind, .int .u8 wh] w fun e w' => e = .returned (.bool true) ∧ Below w.heap.size w w' := by
  have HT := Go.Lib.hid hT
  have HV := Go.Lib.hid hV
  have ck := fun W hT av cv ab cb => mcheck_any W hT (mK kind 1) av cv ab cb
  rw [hC] at ck
  subst hkk
  have hSl : S.length ≤ 7 := hS
  have sa := strV_at kk (by omega)
  rw [← hSB] at sa
  have SA := Go.Lib.hid sa
  clear sa hSB
  have hk1 : (1 : Int) ≤ (kk : Int) := by omega
  have hk2 : (kk : Int) ≤ 18 := by omega
  have CK := Go.Lib.hid ck
  clear hT hV ck hC
  unfold msgV mK mm0 at CK
  simp only [List.toArray, List.length_nil, List.length_cons] at CK
  go_enter Tryd.func6, Tryd.ntmps6
  go_wp2_with fail
  refine (mawake_any _ HT.out).mono ?_
  rintro e w1 ⟨rfl, hb1⟩
  have hT1 := HT.out.grow hb1
  have B2 : Below w.heap.size w (w1.alloc (.cells #[(.int .i64 (kk : Int)), (.int .u64 0), (.int .u64 0), (.int .i64 0), (.int .i64 0), (.int .u64 0), (.int .u64 0), (.int .u64 0), (.int .i64 0), (.slice none 0 0), (.slice none 0 0)] 32)) := NB.bel hb1 (oneB w1 _) hb1.size
  have B3 : Below w.heap.size w ((w1.alloc (.cells #[(.int .i64 (kk : Int)), (.int .u64 0), (.int .u64 0), (.int .i64 0), (.int .i64 0), (.int .u64 0), (.int .u64 0), (.int .u64 0), (.int .i64 0), (.slice none 0 0), (.slice none 0 0)] 32)).alloc (.cells #[.string (ByteArray.mk #[]), .string (ByteArray.mk #[104, 103, 99, 113, 120]), .string (ByteArray.mk #[104, 103, 99, 113, 112, 100]), .string (ByteArray.mk #[104, 103, 99, 113, 112, 120]), .string (ByteArray.mk #[104, 103, 112]), .string (ByteArray.mk #[104, 103, 112]), .string (ByteArray.mk #[104, 103, 118]), .string (ByteArray.mk #[98, 115]), .string (ByteArray.mk #[98, 115, 120]), .string (ByteArray.mk #[98, 115, 120]), .string (ByteArray.mk #[98, 115]), .string (ByteArray.mk #[98]), .string (ByteArray.mk #[115, 120]), .string (ByteArray.mk #[115]), .string (ByteArray.mk #[99, 113, 112]), .string (ByteArray.mk #[104, 103, 99, 113, 112, 100, 120]), .string (ByteArray.mk #[104, 103, 99, 113, 112, 100]), .string (ByteArray.mk #[99, 113, 112, 100]), .string (ByteArray.mk #[98, 115])] 9)) := NB.bel B2 (oneB (w1.alloc (.cells #[(.int .i64 (kk : Int)), (.int .u64 0), (.int .u64 0), (.int .i64 0), (.int .i64 0), (.int .u64 0), (.int .u64 0), (.int .u64 0), (.int .i64 0), (.slice none 0 0), (.slice none 0 0)] 32)) _) B2.size
  have R3 : Rw ((w1.alloc (.cells #[(.int .i64 (kk : Int)), (.int .u64 0), (.int .u64 0), (.int .i64 0), (.int .i64 0), (.int .u64 0), (.int .u64 0), (.int .u64 0), (.int .i64 0), (.slice none 0 0), (.slice none 0 0)] 32)).alloc (.cells #[.string (ByteArray.mk #[]), .string (ByteArray.mk #[104, 103, 99, 113, 120]), .string (ByteArray.mk #[104, 103, 99, 113, 112, 100]), .string (ByteArray.mk #[104, 103, 99, 113, 112, 120]), .string (ByteArray.mk #[104, 103, 112]), .string (ByteArray.mk #[104, 103, 112]), .string (ByteArray.mk #[104, 103, 118]), .string (ByteArray.mk #[98, 115]), .string (ByteArray.mk #[98, 115, 120]), .string (ByteArray.mk #[98, 115, 120]), .string (ByteArray.mk #[98, 115]), .string (ByteArray.mk #[98]), .string (ByteArray.mk #[115, 120]), .string (ByteArray.mk #[115]), .string (ByteArray.mk #[99, 113, 112]), .string (ByteArray.mk #[104, 103, 99, 113, 112, 100, 120]), .string (ByteArray.mk #[104, 103, 99, 113, 112, 100]), .string (ByteArray.mk #[99, 113, 112, 100]), .string (ByteArray.mk #[98, 115])] 9)) w1.heap.size [(.int .i64 (kk : Int)), (.int .u64 0), (.int .u64 0), (.int .i64 0), (.int .i64 0), (.int .u64 0), (.int .u64 0), (.int .u64 0), (.int .i64 0), (.slice none 0 0), (.slice none 0 0)] 32 := (NB.rw_new w1 _ 32 rfl).below (oneB (w1.alloc (.cells #[(.int .i64 (kk : Int)), (.int .u64 0), (.int .u64 0), (.int .i64 0), (.int .i64 0), (.int .u64 0), (.int .u64 0), (.int .u64 0), (.int .i64 0), (.slice none 0 0), (.slice none 0 0)] 32)) _)
  have z2 : (w1.alloc (.cells #[(.int .i64 (kk : Int)), (.int .u64 0), (.int .u64 0), (.int .i64 0), (.int .i64 0), (.int .u64 0), (.int .u64 0), (.int .u64 0), (.int .i64 0), (.slice none 0 0), (.slice none 0 0)] 32)).heap.size = w1.heap.size + 1 := by simp
  have q0 : ((w1.alloc (.cells #[(.int .i64 (kk : Int)), (.int .u64 0), (.int .u64 0), (.int .i64 0), (.int .i64 0), (.int .u64 0), (.int .u64 0), (.int .u64 0), (.int .i64 0), (.slice none 0 0), (.slice none 0 0)] 32)).alloc (.cells #[.string (ByteArray.mk #[]), .string (ByteArray.mk #[104, 103, 99, 113, 120]), .string (ByteArray.mk #[104, 103, 99, 113, 112, 100]), .string (ByteArray.mk #[104, 103, 99, 113, 112, 120]), .string (ByteArray.mk #[104, 103, 112]), .string (ByteArray.mk #[104, 103, 112]), .string (ByteArray.mk #[104, 103, 118]), .string (ByteArray.mk #[98, 115]), .string (ByteArray.mk #[98, 115, 120]), .string (ByteArray.mk #[98, 115, 120]), .string (ByteArray.mk #[98, 115]), .string (ByteArray.mk #[98]), .string (ByteArray.mk #[115, 120]), .string (ByteArray.mk #[115]), .string (ByteArray.mk #[99, 113, 112]), .string (ByteArray.mk #[104, 103, 99, 113, 112, 100, 120]), .string (ByteArray.mk #[104, 103, 99, 113, 112, 100]), .string (ByteArray.mk #[99, 113, 112, 100]), .string (ByteArray.mk #[98, 115])] 9)).cell? ⟨w1.heap.size + 1, kk, none⟩ = some (.string (ByteArray.mk S.toArray)) := by
    have r : Rw ((w1.alloc (.cells #[(.int .i64 (kk : Int)), (.int .u64 0), (.int .u64 0), (.int .i64 0), (.int .i64 0), (.int .u64 0), (.int .u64 0), (.int .u64 0), (.int .i64 0), (.slice none 0 0), (.slice none 0 0)] 32)).alloc (.cells #[.string (ByteArray.mk #[]), .string (ByteArray.mk #[104, 103, 99, 113, 120]), .string (ByteArray.mk #[104, 103, 99, 113, 112, 100]), .string (ByteArray.mk #[104, 103, 99, 113, 112, 120]), .string (ByteArray.mk #[104, 103, 112]), .string (ByteArray.mk #[104, 103, 112]), .string (ByteArray.mk #[104, 103, 118]), .string (ByteArray.mk #[98, 115]), .string (ByteArray.mk #[98, 115, 120]), .string (ByteArray.mk #[98, 115, 120]), .string (ByteArray.mk #[98, 115]), .string (ByteArray.mk #[98]), .string (ByteArray.mk #[115, 120]), .string (ByteArray.mk #[115]), .string (ByteArray.mk #[99, 113, 112]), .string (ByteArray.mk #[104, 103, 99, 113, 112, 100, 120]), .string (ByteArray.mk #[104, 103, 99, 113, 112, 100]), .string (ByteArray.mk #[99, 113, 112, 100]), .string (ByteArray.mk #[98, 115])] 9)) (w1.alloc (.cells #[(.int .i64 (kk : Int)), (.int .u64 0), (.int .u64 0), (.int .i64 0), (.int .i64 0), (.int .u64 0), (.int .u64 0), (.int .u64 0), (.int .i64 0), (.slice none 0 0), (.slice none 0 0)] 32)).heap.size strV 9 := NB.rw_new (w1.alloc (.cells #[(.int .i64 (kk : Int)), (.int .u64 0), (.int .u64 0), (.int .i64 0), (.int .i64 0), (.int .u64 0), (.int .u64 0), (.int .u64 0), (.int .i64 0), (.slice none 0 0), (.slice none 0 0)] 32)) strV 9 rfl
    rw [z2] at r
    exact r.cell kk _ SA.out
  have c2 := R3.cell 2 _ rfl
  have f2 := R3.free 2
  have B5 : Below w.heap.size w ((w1.alloc (.cells #[(.int .i64 (kk : Int)), (.int .u64 0), (.int .u64 1), (.int .i64 0), (.int .i64 0), (.int .u64 0), (.int .u64 0), (.int .u64 0), (.int .i64 0), (.slice none 0 0), (.slice none 0 0)] 32)).alloc (.cells #[.string (ByteArray.mk #[]), .string (ByteArray.mk #[104, 103, 99, 113, 120]), .string (ByteArray.mk #[104, 103, 99, 113, 112, 100]), .string (ByteArray.mk #[104, 103, 99, 113, 112, 120]), .string (ByteArray.mk #[104, 103, 112]), .string (ByteArray.mk #[104, 103, 112]), .string (ByteArray.mk #[104, 103, 118]), .string (ByteArray.mk #[98, 115]), .string (ByteArray.mk #[98, 115, 120]), .string (ByteArray.mk #[98, 115, 120]), .string (ByteArray.mk #[98, 115]), .string (ByteArray.mk #[98]), .string (ByteArray.mk #[115, 120]), .string (ByteArray.mk #[115]), .string (ByteArray.mk #[99, 113, 112]), .string (ByteArray.mk #[104, 103, 99, 113, 112, 100, 120]), .string (ByteArray.mk #[104, 103, 99, 113, 112, 100]), .string (ByteArray.mk #[99, 113, 112, 100]), .string (ByteArray.mk #[98, 115])] 9)) := NB.bel (NB.bel hb1 (oneB w1 _) hb1.size) (oneB (w1.alloc (.cells #[(.int .i64 (kk : Int)), (.int .u64 0), (.int .u64 1), (.int .i64 0), (.int .i64 0), (.int .u64 0), (.int .u64 0), (.int .u64 0), (.int .i64 0), (.slice none 0 0), (.slice none 0 0)] 32)) _) (NB.bel hb1 (oneB w1 _) hb1.size).size
  have R5 : Rw ((w1.alloc (.cells #[(.int .i64 (kk : Int)), (.int .u64 0), (.int .u64 1), (.int .i64 0), (.int .i64 0), (.int .u64 0), (.int .u64 0), (.int .u64 0), (.int .i64 0), (.slice none 0 0), (.slice none 0 0)] 32)).alloc (.cells #[.string (ByteArray.mk #[]), .string (ByteArray.mk #[104, 103, 99, 113, 120]), .string (ByteArray.mk #[104, 103, 99, 113, 112, 100]), .string (ByteArray.mk #[104, 103, 99, 113, 112, 120]), .string (ByteArray.mk #[104, 103, 112]), .string (ByteArray.mk #[104, 103, 112]), .string (ByteArray.mk #[104, 103, 118]), .string (ByteArray.mk #[98, 115]), .string (ByteArray.mk #[98, 115, 120]), .string (ByteArray.mk #[98, 115, 120]), .string (ByteArray.mk #[98, 115]), .string (ByteArray.mk #[98]), .string (ByteArray.mk #[115, 120]), .string (ByteArray.mk #[115]), .string (ByteArray.mk #[99, 113, 112]), .string (ByteArray.mk #[104, 103, 99, 113, 112, 100, 120]), .string (ByteArray.mk #[104, 103, 99, 113, 112, 100]), .string (ByteArray.mk #[99, 113, 112, 100]), .string (ByteArray.mk #[98, 115])] 9)) w1.heap.size [(.int .i64 (kk : Int)), (.int .u64 0), (.int .u64 1), (.int .i64 0), (.int .i64 0), (.int .u64 0), (.int .u64 0), (.int .u64 0), (.int .i64 0), (.slice none 0 0), (.slice none 0 0)] 32 := (NB.rw_new w1 _ 32 rfl).below (oneB (w1.alloc (.cells #[(.int .i64 (kk : Int)), (.int .u64 0), (.int .u64 1), (.int .i64 0), (.int .i64 0), (.int .u64 0), (.int .u64 0), (.int .u64 0), (.int .i64 0), (.slice none 0 0), (.slice none 0 0)] 32)) _)
  have hT5 := HT.out.grow B5
  have l5 := R5.lt
  clear R3 B2 B3 hb1 hT1
  go_wp2_with fail
  go_loopw [10, 11] (fun x y wr => ∃ i : Nat, i ≤ S.length ∧ x = .bool ((S.take i).any (· == 115)) ∧ y = .int .i64 (i : Int) ∧ Below w.heap.size w wr ∧ Rw wr w1.heap.size [(.int .i64 (kk : Int)), (.int .u64 0), (.int .u64 1), (.int .i64 0), (.int .i64 0), (.int .u64 0), (.int .u64 0), (.int .u64 0), (.int .i64 0), (.slice none 0 0), (.slice none 0 0)] 32) (fun _ y _ => S.length - (intOf y).toNat)
  case atStart => exact ⟨0, by omega, rfl, rfl, B5, R5⟩
  case round =>
    obtain ⟨i, hi, rfl, rfl, BR, RR⟩ := hrel
    clear B5 R5 hT5 hm
    by_cases hlt : i < S.length
    case neg =>
      have hli : ¬ (i : Int) < (S.length : Int) := by omega
      rw [List.take_of_length_le (by omega)]
      have hv : S.any (· == 115) = V := HV.out
      rw [hv]
      clear hv
      have e0 := RR.cell 0 _ rfl
      have e1 := RR.cell 1 _ rfl
      have e2 := RR.cell 2 _ rfl
      have e3 := RR.cell 3 _ rfl
      have e4 := RR.cell 4 _ rfl
      have e5 := RR.cell 5 _ rfl
      have e6 := RR.cell 6 _ rfl
      have e7 := RR.cell 7 _ rfl
      have e8 := RR.cell 8 _ rfl
      have e9 := RR.cell 9 _ rfl
      have e10 := RR.cell 10 _ rfl
      cases V
      all_goals (
        simp only [Bool.false_eq_true, if_true, if_false, reduceIte] at CK
        go_wp2_with fail
        refine (CK.out _ (HT.out.grow BR) none 0 none 0).mono ?_
        rintro e w9 ⟨rfl, hb9⟩
        have B9 := NB.bel BR hb9 BR.size
        go_wp2_with fail
        go_ret
        exact ⟨rfl, B9⟩)
    have hli : (i : Int) < (S.length : Int) := by omega
    have htk : S.take (i + 1) = S.take i ++ [S[i]] := by rw [List.take_add_one, List.getElem?_eq_getElem hlt]; rfl
    have hix : S.toArray[i]? = some S[i] := by simp [hlt]
    obtain ⟨v, hv⟩ : ∃ v, (S.take i).any (· == 115) = v := ⟨_, rfl⟩
    rw [hv]
    have HN : (S.take (i + 1)).any (· == 115) = (v || S[i] == 115) := by rw [htk, List.any_append, hv]; simp
    have HN := Go.Lib.hid HN
    clear htk hv
    cases v
    · go_wp2_with fail
      refine NB.wp_region_t [] (by kernel_rfl) ?_
      refine NB.t_p 0 rfl (by kernel_rfl) (fun K hK => ?_); go_simp; refine hK _ ?_; clear hK K
      refine NB.t_p 1 rfl (by kernel_rfl) (fun K hK => ?_); go_simp; refine hK _ ?_; clear hK K
      refine NB.t_p 2 rfl (by kernel_rfl) (fun K hK => ?_); go_simp; refine hK _ ?_; clear hK K
      refine NB.t_p 3 rfl (by kernel_rfl) (fun K hK => ?_); go_simp; refine hK _ ?_; clear hK K
      refine NB.t_p 4 rfl (by kernel_rfl) (fun K hK => ?_); go_simp; refine hK _ ?_; clear hK K
      refine NB.t_p 5 rfl (by kernel_rfl) (fun K hK => ?_); go_simp; refine hK _ ?_; clear hK K
      refine NB.t_p 6 rfl (by kernel_rfl) (fun K hK => ?_); go_simp; refine hK _ ?_; clear hK K
      refine NB.t_p 7 rfl (by kernel_rfl) (fun K hK => ?_); go_simp; refine hK _ ?_; clear hK K
      refine NB.t_p 8 rfl (by kernel_rfl) (fun K hK => ?_); go_simp; refine hK _ ?_; clear hK K
      refine NB.t_p 9 rfl (by kernel_rfl) (fun K hK => ?_); go_simp; refine hK _ ?_; clear hK K
      refine NB.t_end (by kernel_rfl) ?_
      go_wp2_with fail
      go_round
      case rel => exact ⟨i + 1, by omega, by rw [HN.out, Bool.false_or]; exact congrArg Value.bool (byte_eq S[i] 115), by go_num, BR.trans (dB _ |>.mono BR.size), RR.below (dB _)⟩
      case measure => simp [intOf]; omega
    · go_wp2_with fail
      refine NB.wp_region_t [] (by kernel_rfl) ?_
      refine NB.t_p 0 rfl (by kernel_rfl) (fun K hK => ?_); go_simp; refine hK _ ?_; clear hK K
      refine NB.t_p 1 rfl (by kernel_rfl) (fun K hK => ?_); go_simp; refine hK _ ?_; clear hK K
      refine NB.t_p 2 rfl (by kernel_rfl) (fun K hK => ?_); go_simp; refine hK _ ?_; clear hK K
      refine NB.t_p 3 rfl (by kernel_rfl) (fun K hK => ?_); go_simp; refine hK _ ?_; clear hK K
      refine NB.t_p 4 rfl (by kernel_rfl) (fun K hK => ?_); go_simp; refine hK _ ?_; clear hK K
      refine NB.t_p 5 rfl (by kernel_rfl) (fun K hK => ?_); go_simp; refine hK _ ?_; clear hK K
      refine NB.t_p 6 rfl (by kernel_rfl) (fun K hK => ?_); go_simp; refine hK _ ?_; clear hK K
      refine NB.t_p 7 rfl (by kernel_rfl) (fun K hK => ?_); go_simp; refine hK _ ?_; clear hK K
      refine NB.t_p 8 rfl (by kernel_rfl) (fun K hK => ?_); go_simp; refine hK _ ?_; clear hK K
      refine NB.t_p 9 rfl (by kernel_rfl) (fun K hK => ?_); go_simp; refine hK _ ?_; clear hK K
      refine NB.t_end (by kernel_rfl) ?_
      go_wp2_with fail
      go_round
      case rel => exact ⟨i + 1, by omega, by rw [HN.out]; rfl, by go_num, BR.trans (dB _ |>.mono BR.size), RR.below (dB _)⟩
      case measure => simp [intOf]; omega

set_option maxRecDepth 100000 in
set_option maxHeartbeats 4000000 in
theorem kinds_B2 (w : World) (hT : Tb w) (kind wh : Int) (hw0 : 0 ≤ wh) (hw1 : wh < 256) (hm : wh % 10 = 2) (V : Bool) (S : List UInt8) (hS : S.length ≤ 7) (kk : Nat) (hkk : kind = (kk : Int)) (h1 : 1 ≤ kk) (h2 : kk ≤ 18) (hSB : S = strK.getD kk [])
    (hV : S.any (· == ltr.getD 2 0) = V) (hC : mcheckM (mK kind 2) = if V = true then 0 else 1) :
    Calls Tryd.prog 6 #[.int .i64 kind, .int .u8 wh] w fun e w' => e = .returned (.bool true) ∧ Below w.heap.size w w' := by
  have HT := Go.Lib.hid hT
  have HV := Go.Lib.hid hV
  have ck := fun W hT av cv ab cb => mcheck_any W hT (mK kind 2) av cv ab cb
  rw [hC] at ck
  subst hkk
  have hSl : S.length ≤ 7 := hS
  have sa := strV_at kk (by omega)
  rw [← hSB] at sa
  have SA := Go.Lib.hid sa
  clear sa hSB
  have hk1 : (1 : Int) ≤ (kk : Int) := by omega
  have hk2 : (kk : Int) ≤ 18 := by omega
  have CK := Go.Lib.hid ck
  clear hT hV ck hC
  unfold msgV mK mm0 at CK
  simp only [List.toArray, List.length_nil, List.length_cons] at CK
  go_enter Tryd.func6, Tryd.ntmps6
  go_wp2_with fail
  refine (mawake_any _ HT.out).mono ?_
  rintro e w1 ⟨rfl, hb1⟩
  have hT1 := HT.out.grow hb1
  have B2 : Below w.heap.size w (w1.alloc (.cells #[(.int .i64 (kk : Int)), (.int .u64 0), (.int .u64 0), (.int .i64 0), (.int .i64 0), (.int .u64 0), (.int .u64 0), (.int .u64 0), (.int .i64 0), (.slice none 0 0), (.slice none 0 0)] 32)) := NB.bel hb1 (oneB w1 _) hb1.size
  have B3 : Below w.heap.size w ((w1.alloc (.cells #[(.int .i64 (kk : Int)), (.int .u64 0), (.int .u64 0), (.int .i64 0), (.int .i64 0), (.int .u64 0), (.int .u64 0), (.int .u64 0), (.int .i64 0), (.slice none 0 0), (.slice none 0 0)] 32)).alloc (.cells #[.string (ByteArray.mk #[]), .string (ByteArray.mk #[104, 103, 99, 113, 120]), .string (ByteArray.mk #[104, 103, 99, 113, 112, 100]), .string (ByteArray.mk #[104, 103, 99, 113, 112, 120]), .string (ByteArray.mk #[104, 103, 112]), .string (ByteArray.mk #[104, 103, 112]), .string (ByteArray.mk #[104, 103, 118]), .string (ByteArray.mk #[98, 115]), .string (ByteArray.mk #[98, 115, 120]), .string (ByteArray.mk #[98, 115, 120]), .string (ByteArray.mk #[98, 115]), .string (ByteArray.mk #[98]), .string (ByteArray.mk #[115, 120]), .string (ByteArray.mk #[115]), .string (ByteArray.mk #[99, 113, 112]), .string (ByteArray.mk #[104, 103, 99, 113, 112, 100, 120]), .string (ByteArray.mk #[104, 103, 99, 113, 112, 100]), .string (ByteArray.mk #[99, 113, 112, 100]), .string (ByteArray.mk #[98, 115])] 9)) := NB.bel B2 (oneB (w1.alloc (.cells #[(.int .i64 (kk : Int)), (.int .u64 0), (.int .u64 0), (.int .i64 0), (.int .i64 0), (.int .u64 0), (.int .u64 0), (.int .u64 0), (.int .i64 0), (.slice none 0 0), (.slice none 0 0)] 32)) _) B2.size
  have R3 : Rw ((w1.alloc (.cells #[(.int .i64 (kk : Int)), (.int .u64 0), (.int .u64 0), (.int .i64 0), (.int .i64 0), (.int .u64 0), (.int .u64 0), (.int .u64 0), (.int .i64 0), (.slice none 0 0), (.slice none 0 0)] 32)).alloc (.cells #[.string (ByteArray.mk #[]), .string (ByteArray.mk #[104, 103, 99, 113, 120]), .string (ByteArray.mk #[104, 103, 99, 113, 112, 100]), .string (ByteArray.mk #[104, 103, 99, 113, 112, 120]), .string (ByteArray.mk #[104, 103, 112]), .string (ByteArray.mk #[104, 103, 112]), .string (ByteArray.mk #[104, 103, 118]), .string (ByteArray.mk #[98, 115]), .string (ByteArray.mk #[98, 115, 120]), .string (ByteArray.mk #[98, 115, 120]), .string (ByteArray.mk #[98, 115]), .string (ByteArray.mk #[98]), .string (ByteArray.mk #[115, 120]), .string (ByteArray.mk #[115]), .string (ByteArray.mk #[99, 113, 112]), .string (ByteArray.mk #[104, 103, 99, 113, 112, 100, 120]), .string (ByteArray.mk #[104, 103, 99, 113, 112, 100]), .string (ByteArray.mk #[99, 113, 112, 100]), .string (ByteArray.mk #[98, 115])] 9)) w1.heap.size [(.int .i64 (kk : Int)), (.int .u64 0), (.int .u64 0), (.int .i64 0), (.int .i64 0), (.int .u64 0), (.int .u64 0), (.int .u64 0), (.int .i64 0), (.slice none 0 0), (.slice none 0 0)] 32 := (NB.rw_new w1 _ 32 rfl).below (oneB (w1.alloc (.cells #[(.int .i64 (kk : Int)), (.int .u64 0), (.int .u64 0), (.int .i64 0), (.int .i64 0), (.int .u64 0), (.int .u64 0), (.int .u64 0), (.int .i64 0), (.slice none 0 0), (.slice none 0 0)] 32)) _)
  have z2 : (w1.alloc (.cells #[(.int .i64 (kk : Int)), (.int .u64 0), (.int .u64 0), (.int .i64 0), (.int .i64 0), (.int .u64 0), (.int .u64 0), (.int .u64 0), (.int .i64 0), (.slice none 0 0), (.slice none 0 0)] 32)).heap.size = w1.heap.size + 1 := by simp
  have q0 : ((w1.alloc (.cells #[(.int .i64 (kk : Int)), (.int .u64 0), (.int .u64 0), (.int .i64 0), (.int .i64 0), (.int .u64 0), (.int .u64 0), (.int .u64 0), (.int .i64 0), (.slice none 0 0), (.slice none 0 0)] 32)).alloc (.cells #[.string (ByteArray.mk #[]), .string (ByteArray.mk #[104, 103, 99, 113, 120]), .string (ByteArray.mk #[104, 103, 99, 113, 112, 100]), .string (ByteArray.mk #[104, 103, 99, 113, 112, 120]), .string (ByteArray.mk #[104, 103, 112]), .string (ByteArray.mk #[104, 103, 112]), .string (ByteArray.mk #[104, 103, 118]), .string (ByteArray.mk #[98, 115]), .string (ByteArray.mk #[98, 115, 120]), .string (ByteArray.mk #[98, 115, 120]), .string (ByteArray.mk #[98, 115]), .string (ByteArray.mk #[98]), .string (ByteArray.mk #[115, 120]), .string (ByteArray.mk #[115]), .string (ByteArray.mk #[99, 113, 112]), .string (ByteArray.mk #[104, 103, 99, 113, 112, 100, 120]), .string (ByteArray.mk #[104, 103, 99, 113, 112, 100]), .string (ByteArray.mk #[99, 113, 112, 100]), .string (ByteArray.mk #[98, 115])] 9)).cell? ⟨w1.heap.size + 1, kk, none⟩ = some (.string (ByteArray.mk S.toArray)) := by
    have r : Rw ((w1.alloc (.cells #[(.int .i64 (kk : Int)), (.int .u64 0), (.int .u64 0), (.int .i64 0), (.int .i64 0), (.int .u64 0), (.int .u64 0), (.int .u64 0), (.int .i64 0), (.slice none 0 0), (.slice none 0 0)] 32)).alloc (.cells #[.string (ByteArray.mk #[]), .string (ByteArray.mk #[104, 103, 99, 113, 120]), .string (ByteArray.mk #[104, 103, 99, 113, 112, 100]), .string (ByteArray.mk #[104, 103, 99, 113, 112, 120]), .string (ByteArray.mk #[104, 103, 112]), .string (ByteArray.mk #[104, 103, 112]), .string (ByteArray.mk #[104, 103, 118]), .string (ByteArray.mk #[98, 115]), .string (ByteArray.mk #[98, 115, 120]), .string (ByteArray.mk #[98, 115, 120]), .string (ByteArray.mk #[98, 115]), .string (ByteArray.mk #[98]), .string (ByteArray.mk #[115, 120]), .string (ByteArray.mk #[115]), .string (ByteArray.mk #[99, 113, 112]), .string (ByteArray.mk #[104, 103, 99, 113, 112, 100, 120]), .string (ByteArray.mk #[104, 103, 99, 113, 112, 100]), .string (ByteArray.mk #[99, 113, 112, 100]), .string (ByteArray.mk #[98, 115])] 9)) (w1.alloc (.cells #[(.int .i64 (kk : Int)), (.int .u64 0), (.int .u64 0), (.int .i64 0), (.int .i64 0), (.int .u64 0), (.int .u64 0), (.int .u64 0), (.int .i64 0), (.slice none 0 0), (.slice none 0 0)] 32)).heap.size strV 9 := NB.rw_new (w1.alloc (.cells #[(.int .i64 (kk : Int)), (.int .u64 0), (.int .u64 0), (.int .i64 0), (.int .i64 0), (.int .u64 0), (.int .u64 0), (.int .u64 0), (.int .i64 0), (.slice none 0 0), (.slice none 0 0)] 32)) strV 9 rfl
    rw [z2] at r
    exact r.cell kk _ SA.out
  have c3 := R3.cell 3 _ rfl
  have f3 := R3.free 3
  have B5 : Below w.heap.size w ((w1.alloc (.cells #[(.int .i64 (kk : Int)), (.int .u64 0), (.int .u64 0), (.int .i64 1), (.int .i64 0), (.int .u64 0), (.int .u64 0), (.int .u64 0), (.int .i64 0), (.slice none 0 0), (.slice none 0 0)] 32)).alloc (.cells #[.string (ByteArray.mk #[]), .string (ByteArray.mk #[104, 103, 99, 113, 120]), .string (ByteArray.mk #[104, 103, 99, 113, 112, 100]), .string (ByteArray.mk #[104, 103, 99, 113, 112, 120]), .string (ByteArray.mk #[104, 103, 112]), .string (ByteArray.mk #[104, 103, 112]), .string (ByteArray.mk #[104, 103, 118]), .string (ByteArray.mk #[98, 115]), .string (ByteArray.mk #[98, 115, 120]), .string (ByteArray.mk #[98, 115, 120]), .string (ByteArray.mk #[98, 115]), .string (ByteArray.mk #[98]), .string (ByteArray.mk #[115, 120]), .string (ByteArray.mk #[115]), .string (ByteArray.mk #[99, 113, 112]), .string (ByteArray.mk #[104, 103, 99, 113, 112, 100, 120]), .string (ByteArray.mk #[104, 103, 99, 113, 112, 100]), .string (ByteArray.mk #[99, 113, 112, 100]), .string (ByteArray.mk #[98, 115])] 9)) := NB.bel (NB.bel hb1 (oneB w1 _) hb1.size) (oneB (w1.alloc (.cells #[(.int .i64 (kk : Int)), (.int .u64 0), (.int .u64 0), (.int .i64 1), (.int .i64 0), (.int .u64 0), (.int .u64 0), (.int .u64 0), (.int .i64 0), (.slice none 0 0), (.slice none 0 0)] 32)) _) (NB.bel hb1 (oneB w1 _) hb1.size).size
  have R5 : Rw ((w1.alloc (.cells #[(.int .i64 (kk : Int)), (.int .u64 0), (.int .u64 0), (.int .i64 1), (.int .i64 0), (.int .u64 0), (.int .u64 0), (.int .u64 0), (.int .i64 0), (.slice none 0 0), (.slice none 0 0)] 32)).alloc (.cells #[.string (ByteArray.mk #[]), .string (ByteArray.mk #[104, 103, 99, 113, 120]), .string (ByteArray.mk #[104, 103, 99, 113, 112, 100]), .string (ByteArray.mk #[104, 103, 99, 113, 112, 120]), .string (ByteArray.mk #[104, 103, 112]), .string (ByteArray.mk #[104, 103, 112]), .string (ByteArray.mk #[104, 103, 118]), .string (ByteArray.mk #[98, 115]), .string (ByteArray.mk #[98, 115, 120]), .string (ByteArray.mk #[98, 115, 120]), .string (ByteArray.mk #[98, 115]), .string (ByteArray.mk #[98]), .string (ByteArray.mk #[115, 120]), .string (ByteArray.mk #[115]), .string (ByteArray.mk #[99, 113, 112]), .string (ByteArray.mk #[104, 103, 99, 113, 112, 100, 120]), .string (ByteArray.mk #[104, 103, 99, 113, 112, 100]), .string (ByteArray.mk #[99, 113, 112, 100]), .string (ByteArray.mk #[98, 115])] 9)) w1.heap.size [(.int .i64 (kk : Int)), (.int .u64 0), (.int .u64 0), (.int .i64 1), (.int .i64 0), (.int .u64 0), (.int .u64 0), (.int .u64 0), (.int .i64 0), (.slice none 0 0), (.slice none 0 0)] 32 := (NB.rw_new w1 _ 32 rfl).below (oneB (w1.alloc (.cells #[(.int .i64 (kk : Int)), (.int .u64 0), (.int .u64 0), (.int .i64 1), (.int .i64 0), (.int .u64 0), (.int .u64 0), (.int .u64 0), (.int .i64 0), (.slice none 0 0), (.slice none 0 0)] 32)) _)
  have hT5 := HT.out.grow B5
  have l5 := R5.lt
  clear R3 B2 B3 hb1 hT1
  go_wp2_with fail
  go_loopw [10, 11] (fun x y wr => ∃ i : Nat, i ≤ S.length ∧ x = .bool ((S.take i).any (· == 104)) ∧ y = .int .i64 (i : Int) ∧ Below w.heap.size w wr ∧ Rw wr w1.heap.size [(.int .i64 (kk : Int)), (.int .u64 0), (.int .u64 0), (.int .i64 1), (.int .i64 0), (.int .u64 0), (.int .u64 0), (.int .u64 0), (.int .i64 0), (.slice none 0 0), (.slice none 0 0)] 32) (fun _ y _ => S.length - (intOf y).toNat)
  case atStart => exact ⟨0, by omega, rfl, rfl, B5, R5⟩
  case round =>
    obtain ⟨i, hi, rfl, rfl, BR, RR⟩ := hrel
    clear B5 R5 hT5 hm
    by_cases hlt : i < S.length
    case neg =>
      have hli : ¬ (i : Int) < (S.length : Int) := by omega
      rw [List.take_of_length_le (by omega)]
      have hv : S.any (· == 104) = V := HV.out
      rw [hv]
      clear hv
      have e0 := RR.cell 0 _ rfl
      have e1 := RR.cell 1 _ rfl
      have e2 := RR.cell 2 _ rfl
      have e3 := RR.cell 3 _ rfl
      have e4 := RR.cell 4 _ rfl
      have e5 := RR.cell 5 _ rfl
      have e6 := RR.cell 6 _ rfl
      have e7 := RR.cell 7 _ rfl
      have e8 := RR.cell 8 _ rfl
      have e9 := RR.cell 9 _ rfl
      have e10 := RR.cell 10 _ rfl
      cases V
      all_goals (
        simp only [Bool.false_eq_true, if_true, if_false, reduceIte] at CK
        go_wp2_with fail
        refine (CK.out _ (HT.out.grow BR) none 0 none 0).mono ?_
        rintro e w9 ⟨rfl, hb9⟩
        have B9 := NB.bel BR hb9 BR.size
        go_wp2_with fail
        go_ret
        exact ⟨rfl, B9⟩)
    have hli : (i : Int) < (S.length : Int) := by omega
    have htk : S.take (i + 1) = S.take i ++ [S[i]] := by rw [List.take_add_one, List.getElem?_eq_getElem hlt]; rfl
    have hix : S.toArray[i]? = some S[i] := by simp [hlt]
    obtain ⟨v, hv⟩ : ∃ v, (S.take i).any (· == 104) = v := ⟨_, rfl⟩
    rw [hv]
    have HN : (S.take (i + 1)).any (· == 104) = (v || S[i] == 104) := by rw [htk, List.any_append, hv]; simp
    have HN := Go.Lib.hid HN
    clear htk hv
    cases v
    · go_wp2_with fail
      refine NB.wp_region_t [] (by kernel_rfl) ?_
      refine NB.t_p 0 rfl (by kernel_rfl) (fun K hK => ?_); go_simp; refine hK _ ?_; clear hK K
      refine NB.t_p 1 rfl (by kernel_rfl) (fun K hK => ?_); go_simp; refine hK _ ?_; clear hK K
      refine NB.t_p 2 rfl (by kernel_rfl) (fun K hK => ?_); go_simp; refine hK _ ?_; clear hK K
      refine NB.t_p 3 rfl (by kernel_rfl) (fun K hK => ?_); go_simp; refine hK _ ?_; clear hK K
      refine NB.t_p 4 rfl (by kernel_rfl) (fun K hK => ?_); go_simp; refine hK _ ?_; clear hK K
      refine NB.t_p 5 rfl (by kernel_rfl) (fun K hK => ?_); go_simp; refine hK _ ?_; clear hK K
      refine NB.t_p 6 rfl (by kernel_rfl) (fun K hK => ?_); go_simp; refine hK _ ?_; clear hK K
      refine NB.t_p 7 rfl (by kernel_rfl) (fun K hK => ?_); go_simp; refine hK _ ?_; clear hK K
      refine NB.t_p 8 rfl (by kernel_rfl) (fun K hK => ?_); go_simp; refine hK _ ?_; clear hK K
      refine NB.t_p 9 rfl (by kernel_rfl) (fun K hK => ?_); go_simp; refine hK _ ?_; clear hK K
      refine NB.t_end (by kernel_rfl) ?_
      go_wp2_with fail
      go_round
      case rel => exact ⟨i + 1, by omega, by rw [HN.out, Bool.false_or]; exact congrArg Value.bool (byte_eq S[i] 104), by go_num, BR.trans (dB _ |>.mono BR.size), RR.below (dB _)⟩
      case measure => simp [intOf]; omega
    · go_wp2_with fail
      refine NB.wp_region_t [] (by kernel_rfl) ?_
      refine NB.t_p 0 rfl (by kernel_rfl) (fun K hK => ?_); go_simp; refine hK _ ?_; clear hK K
      refine NB.t_p 1 rfl (by kernel_rfl) (fun K hK => ?_); go_simp; refine hK _ ?_; clear hK K
      refine NB.t_p 2 rfl (by kernel_rfl) (fun K hK => ?_); go_simp; refine hK _ ?_; clear hK K
      refine NB.t_p 3 rfl (by kernel_rfl) (fun K hK => ?_); go_simp; refine hK _ ?_; clear hK K
      refine NB.t_p 4 rfl (by kernel_rfl) (fun K hK => ?_); go_simp; refine hK _ ?_; clear hK K
      refine NB.t_p 5 rfl (by kernel_rfl) (fun K hK => ?_); go_simp; refine hK _ ?_; clear hK K
      refine NB.t_p 6 rfl (by kernel_rfl) (fun K hK => ?_); go_simp; refine hK _ ?_; clear hK K
      refine NB.t_p 7 rfl (by kernel_rfl) (fun K hK => ?_); go_simp; refine hK _ ?_; clear hK K
      refine NB.t_p 8 rfl (by kernel_rfl) (fun K hK => ?_); go_simp; refine hK _ ?_; clear hK K
      refine NB.t_p 9 rfl (by kernel_rfl) (fun K hK => ?_); go_simp; refine hK _ ?_; clear hK K
      refine NB.t_end (by kernel_rfl) ?_
      go_wp2_with fail
      go_round
      case rel => exact ⟨i + 1, by omega, by rw [HN.out]; rfl, by go_num, BR.trans (dB _ |>.mono BR.size), RR.below (dB _)⟩
      case measure => simp [intOf]; omega

set_option maxRecDepth 100000 in
set_option maxHeartbeats 4000000 in
theorem kinds_B3 (w : World) (hT : Tb w) (kind wh : Int) (hw0 : 0 ≤ wh) (hw1 : wh < 256) (hm : wh % 10 = 3) (V : Bool) (S : List UInt8) (hS : S.length ≤ 7) (kk : Nat) (hkk : kind = (kk : Int)) (h1 : 1 ≤ kk) (h2 : kk ≤ 18) (hSB : S = strK.getD kk [])
    (hV : S.any (· == ltr.getD 3 0) = V) (hC : mcheckM (mK kind 3) = if V = true then 0 else 1) :
    Calls Tryd.prog 6 #[.int .i64 kind, .int .u8 wh] w fun e w' => e = .returned (.bool true) ∧ Below w.heap.size w w' := by
  have HT := Go.Lib.hid hT
  have HV := Go.Lib.hid hV
  have ck := fun W hT av cv ab cb => mcheck_any W hT (mK kind 3) av cv ab cb
  rw [hC] at ck
  subst hkk
  have hSl : S.length ≤ 7 := hS
  have sa := strV_at kk (by omega)
  rw [← hSB] at sa
  have SA := Go.Lib.hid sa
  clear sa hSB
  have hk1 : (1 : Int) ≤ (kk : Int) := by omega
  have hk2 : (kk : Int) ≤ 18 := by omega
  have CK := Go.Lib.hid ck
  clear hT hV ck hC
  unfold msgV mK mm0 at CK
  simp only [List.toArray, List.length_nil, List.length_cons] at CK
  go_enter Tryd.func6, Tryd.ntmps6
  go_wp2_with fail
  refine (mawake_any _ HT.out).mono ?_
  rintro e w1 ⟨rfl, hb1⟩
  have hT1 := HT.out.grow hb1
  have B2 : Below w.heap.size w (w1.alloc (.cells #[(.int .i64 (kk : Int)), (.int .u64 0), (.int .u64 0), (.int .i64 0), (.int .i64 0), (.int .u64 0), (.int .u64 0), (.int .u64 0), (.int .i64 0), (.slice none 0 0), (.slice none 0 0)] 32)) := NB.bel hb1 (oneB w1 _) hb1.size
  have B3 : Below w.heap.size w ((w1.alloc (.cells #[(.int .i64 (kk : Int)), (.int .u64 0), (.int .u64 0), (.int .i64 0), (.int .i64 0), (.int .u64 0), (.int .u64 0), (.int .u64 0), (.int .i64 0), (.slice none 0 0), (.slice none 0 0)] 32)).alloc (.cells #[.string (ByteArray.mk #[]), .string (ByteArray.mk #[104, 103, 99, 113, 120]), .string (ByteArray.mk #[104, 103, 99, 113, 112, 100]), .string (ByteArray.mk #[104, 103, 99, 113, 112, 120]), .string (ByteArray.mk #[104, 103, 112]), .string (ByteArray.mk #[104, 103, 112]), .string (ByteArray.mk #[104, 103, 118]), .string (ByteArray.mk #[98, 115]), .string (ByteArray.mk #[98, 115, 120]), .string (ByteArray.mk #[98, 115, 120]), .string (ByteArray.mk #[98, 115]), .string (ByteArray.mk #[98]), .string (ByteArray.mk #[115, 120]), .string (ByteArray.mk #[115]), .string (ByteArray.mk #[99, 113, 112]), .string (ByteArray.mk #[104, 103, 99, 113, 112, 100, 120]), .string (ByteArray.mk #[104, 103, 99, 113, 112, 100]), .string (ByteArray.mk #[99, 113, 112, 100]), .string (ByteArray.mk #[98, 115])] 9)) := NB.bel B2 (oneB (w1.alloc (.cells #[(.int .i64 (kk : Int)), (.int .u64 0), (.int .u64 0), (.int .i64 0), (.int .i64 0), (.int .u64 0), (.int .u64 0), (.int .u64 0), (.int .i64 0), (.slice none 0 0), (.slice none 0 0)] 32)) _) B2.size
  have R3 : Rw ((w1.alloc (.cells #[(.int .i64 (kk : Int)), (.int .u64 0), (.int .u64 0), (.int .i64 0), (.int .i64 0), (.int .u64 0), (.int .u64 0), (.int .u64 0), (.int .i64 0), (.slice none 0 0), (.slice none 0 0)] 32)).alloc (.cells #[.string (ByteArray.mk #[]), .string (ByteArray.mk #[104, 103, 99, 113, 120]), .string (ByteArray.mk #[104, 103, 99, 113, 112, 100]), .string (ByteArray.mk #[104, 103, 99, 113, 112, 120]), .string (ByteArray.mk #[104, 103, 112]), .string (ByteArray.mk #[104, 103, 112]), .string (ByteArray.mk #[104, 103, 118]), .string (ByteArray.mk #[98, 115]), .string (ByteArray.mk #[98, 115, 120]), .string (ByteArray.mk #[98, 115, 120]), .string (ByteArray.mk #[98, 115]), .string (ByteArray.mk #[98]), .string (ByteArray.mk #[115, 120]), .string (ByteArray.mk #[115]), .string (ByteArray.mk #[99, 113, 112]), .string (ByteArray.mk #[104, 103, 99, 113, 112, 100, 120]), .string (ByteArray.mk #[104, 103, 99, 113, 112, 100]), .string (ByteArray.mk #[99, 113, 112, 100]), .string (ByteArray.mk #[98, 115])] 9)) w1.heap.size [(.int .i64 (kk : Int)), (.int .u64 0), (.int .u64 0), (.int .i64 0), (.int .i64 0), (.int .u64 0), (.int .u64 0), (.int .u64 0), (.int .i64 0), (.slice none 0 0), (.slice none 0 0)] 32 := (NB.rw_new w1 _ 32 rfl).below (oneB (w1.alloc (.cells #[(.int .i64 (kk : Int)), (.int .u64 0), (.int .u64 0), (.int .i64 0), (.int .i64 0), (.int .u64 0), (.int .u64 0), (.int .u64 0), (.int .i64 0), (.slice none 0 0), (.slice none 0 0)] 32)) _)
  have z2 : (w1.alloc (.cells #[(.int .i64 (kk : Int)), (.int .u64 0), (.int .u64 0), (.int .i64 0), (.int .i64 0), (.int .u64 0), (.int .u64 0), (.int .u64 0), (.int .i64 0), (.slice none 0 0), (.slice none 0 0)] 32)).heap.size = w1.heap.size + 1 := by simp
  have q0 : ((w1.alloc (.cells #[(.int .i64 (kk : Int)), (.int .u64 0), (.int .u64 0), (.int .i64 0), (.int .i64 0), (.int .u64 0), (.int .u64 0), (.int .u64 0), (.int .i64 0), (.slice none 0 0), (.slice none 0 0)] 32)).alloc (.cells #[.string (ByteArray.mk #[]), .string (ByteArray.mk #[104, 103, 99, 113, 120]), .string (ByteArray.mk #[104, 103, 99, 113, 112, 100]), .string (ByteArray.mk #[104, 103, 99, 113, 112, 120]), .string (ByteArray.mk #[104, 103, 112]), .string (ByteArray.mk #[104, 103, 112]), .string (ByteArray.mk #[104, 103, 118]), .string (ByteArray.mk #[98, 115]), .string (ByteArray.mk #[98, 115, 120]), .string (ByteArray.mk #[98, 115, 120]), .string (ByteArray.mk #[98, 115]), .string (ByteArray.mk #[98]), .string (ByteArray.mk #[115, 120]), .string (ByteArray.mk #[115]), .string (ByteArray.mk #[99, 113, 112]), .string (ByteArray.mk #[104, 103, 99, 113, 112, 100, 120]), .string (ByteArray.mk #[104, 103, 99, 113, 112, 100]), .string (ByteArray.mk #[99, 113, 112, 100]), .string (ByteArray.mk #[98, 115])] 9)).cell? ⟨w1.heap.size + 1, kk, none⟩ = some (.string (ByteArray.mk S.toArray)) := by
    have r : Rw ((w1.alloc (.cells #[(.int .i64 (kk : Int)), (.int .u64 0), (.int .u64 0), (.int .i64 0), (.int .i64 0), (.int .u64 0), (.int .u64 0), (.int .u64 0), (.int .i64 0), (.slice none 0 0), (.slice none 0 0)] 32)).alloc (.cells #[.string (ByteArray.mk #[]), .string (ByteArray.mk #[104, 103, 99, 113, 120]), .string (ByteArray.mk #[104, 103, 99, 113, 112, 100]), .string (ByteArray.mk #[104, 103, 99, 113, 112, 120]), .string (ByteArray.mk #[104, 103, 112]), .string (ByteArray.mk #[104, 103, 112]), .string (ByteArray.mk #[104, 103, 118]), .string (ByteArray.mk #[98, 115]), .string (ByteArray.mk #[98, 115, 120]), .string (ByteArray.mk #[98, 115, 120]), .string (ByteArray.mk #[98, 115]), .string (ByteArray.mk #[98]), .string (ByteArray.mk #[115, 120]), .string (ByteArray.mk #[115]), .string (ByteArray.mk #[99, 113, 112]), .string (ByteArray.mk #[104, 103, 99, 113, 112, 100, 120]), .string (ByteArray.mk #[104, 103, 99, 113, 112, 100]), .string (ByteArray.mk #[99, 113, 112, 100]), .string (ByteArray.mk #[98, 115])] 9)) (w1.alloc (.cells #[(.int .i64 (kk : Int)), (.int .u64 0), (.int .u64 0), (.int .i64 0), (.int .i64 0), (.int .u64 0), (.int .u64 0), (.int .u64 0), (.int .i64 0), (.slice none 0 0), (.slice none 0 0)] 32)).heap.size strV 9 := NB.rw_new (w1.alloc (.cells #[(.int .i64 (kk : Int)), (.int .u64 0), (.int .u64 0), (.int .i64 0), (.int .i64 0), (.int .u64 0), (.int .u64 0), (.int .u64 0), (.int .i64 0), (.slice none 0 0), (.slice none 0 0)] 32)) strV 9 rfl
    rw [z2] at r
    exact r.cell kk _ SA.out
  have c4 := R3.cell 4 _ rfl
  have f4 := R3.free 4
  have B5 : Below w.heap.size w ((w1.alloc (.cells #[(.int .i64 (kk : Int)), (.int .u64 0), (.int .u64 0), (.int .i64 0), (.int .i64 1), (.int .u64 0), (.int .u64 0), (.int .u64 0), (.int .i64 0), (.slice none 0 0), (.slice none 0 0)] 32)).alloc (.cells #[.string (ByteArray.mk #[]), .string (ByteArray.mk #[104, 103, 99, 113, 120]), .string (ByteArray.mk #[104, 103, 99, 113, 112, 100]), .string (ByteArray.mk #[104, 103, 99, 113, 112, 120]), .string (ByteArray.mk #[104, 103, 112]), .string (ByteArray.mk #[104, 103, 112]), .string (ByteArray.mk #[104, 103, 118]), .string (ByteArray.mk #[98, 115]), .string (ByteArray.mk #[98, 115, 120]), .string (ByteArray.mk #[98, 115, 120]), .string (ByteArray.mk #[98, 115]), .string (ByteArray.mk #[98]), .string (ByteArray.mk #[115, 120]), .string (ByteArray.mk #[115]), .string (ByteArray.mk #[99, 113, 112]), .string (ByteArray.mk #[104, 103, 99, 113, 112, 100, 120]), .string (ByteArray.mk #[104, 103, 99, 113, 112, 100]), .string (ByteArray.mk #[99, 113, 112, 100]), .string (ByteArray.mk #[98, 115])] 9)) := NB.bel (NB.bel hb1 (oneB w1 _) hb1.size) (oneB (w1.alloc (.cells #[(.int .i64 (kk : Int)), (.int .u64 0), (.int .u64 0), (.int .i64 0), (.int .i64 1), (.int .u64 0), (.int .u64 0), (.int .u64 0), (.int .i64 0), (.slice none 0 0), (.slice none 0 0)] 32)) _) (NB.bel hb1 (oneB w1 _) hb1.size).size
  have R5 : Rw ((w1.alloc (.cells #[(.int .i64 (kk : Int)), (.int .u64 0), (.int .u64 0), (.int .i64 0), (.int .i64 1), (.int .u64 0), (.int .u64 0), (.int .u64 0), (.int .i64 0), (.slice none 0 0), (.slice none 0 0)] 32)).alloc (.cells #[.string (ByteArray.mk #[]), .string (ByteArray.mk #[104, 103, 99, 113, 120]), .string (ByteArray.mk #[104, 103, 99, 113, 112, 100]), .string (ByteArray.mk #[104, 103, 99, 113, 112, 120]), .string (ByteArray.mk #[104, 103, 112]), .string (ByteArray.mk #[104, 103, 112]), .string (ByteArray.mk #[104, 103, 118]), .string (ByteArray.mk #[98, 115]), .string (ByteArray.mk #[98, 115, 120]), .string (ByteArray.mk #[98, 115, 120]), .string (ByteArray.mk #[98, 115]), .string (ByteArray.mk #[98]), .string (ByteArray.mk #[115, 120]), .string (ByteArray.mk #[115]), .string (ByteArray.mk #[99, 113, 112]), .string (ByteArray.mk #[104, 103, 99, 113, 112, 100, 120]), .string (ByteArray.mk #[104, 103, 99, 113, 112, 100]), .string (ByteArray.mk #[99, 113, 112, 100]), .string (ByteArray.mk #[98, 115])] 9)) w1.heap.size [(.int .i64 (kk : Int)), (.int .u64 0), (.int .u64 0), (.int .i64 0), (.int .i64 1), (.int .u64 0), (.int .u64 0), (.int .u64 0), (.int .i64 0), (.slice none 0 0), (.slice none 0 0)] 32 := (NB.rw_new w1 _ 32 rfl).below (oneB (w1.alloc (.cells #[(.int .i64 (kk : Int)), (.int .u64 0), (.int .u64 0), (.int .i64 0), (.int .i64 1), (.int .u64 0), (.int .u64 0), (.int .u64 0), (.int .i64 0), (.slice none 0 0), (.slice none 0 0)] 32)) _)
  have hT5 := HT.out.grow B5
  have l5 := R5.lt
  clear R3 B2 B3 hb1 hT1
  go_wp2_with fail
  go_loopw [10, 11] (fun x y wr => ∃ i : Nat, i ≤ S.length ∧ x = .bool ((S.take i).any (· == 103)) ∧ y = .int .i64 (i : Int) ∧ Below w.heap.size w wr ∧ Rw wr w1.heap.size [(.int .i64 (kk : Int)), (.int .u64 0), (.int .u64 0), (.int .i64 0), (.int .i64 1), (.int .u64 0), (.int .u64 0), (.int .u64 0), (.int .i64 0), (.slice none 0 0), (.slice none 0 0)] 32) (fun _ y _ => S.length - (intOf y).toNat)
  case atStart => exact ⟨0, by omega, rfl, rfl, B5, R5⟩
  case round =>
    obtain ⟨i, hi, rfl, rfl, BR, RR⟩ := hrel
    clear B5 R5 hT5 hm
    by_cases hlt : i < S.length
    case neg =>
      have hli : ¬ (i : Int) < (S.length : Int) := by omega
      rw [List.take_of_length_le (by omega)]
      have hv : S.any (· == 103) = V := HV.out
      rw [hv]
      clear hv
      have e0 := RR.cell 0 _ rfl
      have e1 := RR.cell 1 _ rfl
      have e2 := RR.cell 2 _ rfl
      have e3 := RR.cell 3 _ rfl
      have e4 := RR.cell 4 _ rfl
      have e5 := RR.cell 5 _ rfl
      have e6 := RR.cell 6 _ rfl
      have e7 := RR.cell 7 _ rfl
      have e8 := RR.cell 8 _ rfl
      have e9 := RR.cell 9 _ rfl
      have e10 := RR.cell 10 _ rfl
      cases V
      all_goals (
        simp only [Bool.false_eq_true, if_true, if_false, reduceIte] at CK
        go_wp2_with fail
        refine (CK.out _ (HT.out.grow BR) none 0 none 0).mono ?_
        rintro e w9 ⟨rfl, hb9⟩
        have B9 := NB.bel BR hb9 BR.size
        go_wp2_with fail
        go_ret
        exact ⟨rfl, B9⟩)
    have hli : (i : Int) < (S.length : Int) := by omega
    have htk : S.take (i + 1) = S.take i ++ [S[i]] := by rw [List.take_add_one, List.getElem?_eq_getElem hlt]; rfl
    have hix : S.toArray[i]? = some S[i] := by simp [hlt]
    obtain ⟨v, hv⟩ : ∃ v, (S.take i).any (· == 103) = v := ⟨_, rfl⟩
    rw [hv]
    have HN : (S.take (i + 1)).any (· == 103) = (v || S[i] == 103) := by rw [htk, List.any_append, hv]; simp
    have HN := Go.Lib.hid HN
    clear htk hv
    cases v
    · go_wp2_with fail
      refine NB.wp_region_t [] (by kernel_rfl) ?_
      refine NB.t_p 0 rfl (by kernel_rfl) (fun K hK => ?_); go_simp; refine hK _ ?_; clear hK K
      refine NB.t_p 1 rfl (by kernel_rfl) (fun K hK => ?_); go_simp; refine hK _ ?_; clear hK K
      refine NB.t_p 2 rfl (by kernel_rfl) (fun K hK => ?_); go_simp; refine hK _ ?_; clear hK K
      refine NB.t_p 3 rfl (by kernel_rfl) (fun K hK => ?_); go_simp; refine hK _ ?_; clear hK K
      refine NB.t_p 4 rfl (by kernel_rfl) (fun K hK => ?_); go_simp; refine hK _ ?_; clear hK K
      refine NB.t_p 5 rfl (by kernel_rfl) (fun K hK => ?_); go_simp; refine hK _ ?_; clear hK K
      refine NB.t_p 6 rfl (by kernel_rfl) (fun K hK => ?_); go_simp; refine hK _ ?_; clear hK K
      refine NB.t_p 7 rfl (by kernel_rfl) (fun K hK => ?_); go_simp; refine hK _ ?_; clear hK K
      refine NB.t_p 8 rfl (by kernel_rfl) (fun K hK => ?_); go_simp; refine hK _ ?_; clear hK K
      refine NB.t_p 9 rfl (by kernel_rfl) (fun K hK => ?_); go_simp; refine hK _ ?_; clear hK K
      refine NB.t_end (by kernel_rfl) ?_
      go_wp2_with fail
      go_round
      case rel => exact ⟨i + 1, by omega, by rw [HN.out, Bool.false_or]; exact congrArg Value.bool (byte_eq S[i] 103), by go_num, BR.trans (dB _ |>.mono BR.size), RR.below (dB _)⟩
      case measure => simp [intOf]; omega
    · go_wp2_with fail
      refine NB.wp_region_t [] (by kernel_rfl) ?_
      refine NB.t_p 0 rfl (by kernel_rfl) (fun K hK => ?_); go_simp; refine hK _ ?_; clear hK K
      refine NB.t_p 1 rfl (by kernel_rfl) (fun K hK => ?_); go_simp; refine hK _ ?_; clear hK K
      refine NB.t_p 2 rfl (by kernel_rfl) (fun K hK => ?_); go_simp; refine hK _ ?_; clear hK K
      refine NB.t_p 3 rfl (by kernel_rfl) (fun K hK => ?_); go_simp; refine hK _ ?_; clear hK K
      refine NB.t_p 4 rfl (by kernel_rfl) (fun K hK => ?_); go_simp; refine hK _ ?_; clear hK K
      refine NB.t_p 5 rfl (by kernel_rfl) (fun K hK => ?_); go_simp; refine hK _ ?_; clear hK K
      refine NB.t_p 6 rfl (by kernel_rfl) (fun K hK => ?_); go_simp; refine hK _ ?_; clear hK K
      refine NB.t_p 7 rfl (by kernel_rfl) (fun K hK => ?_); go_simp; refine hK _ ?_; clear hK K
      refine NB.t_p 8 rfl (by kernel_rfl) (fun K hK => ?_); go_simp; refine hK _ ?_; clear hK K
      refine NB.t_p 9 rfl (by kernel_rfl) (fun K hK => ?_); go_simp; refine hK _ ?_; clear hK K
      refine NB.t_end (by kernel_rfl) ?_
      go_wp2_with fail
      go_round
      case rel => exact ⟨i + 1, by omega, by rw [HN.out]; rfl, by go_num, BR.trans (dB _ |>.mono BR.size), RR.below (dB _)⟩
      case measure => simp [intOf]; omega

set_option maxRecDepth 100000 in
set_option maxHeartbeats 4000000 in
theorem kinds_B4 (w : World) (hT : Tb w) (kind wh : Int) (hw0 : 0 ≤ wh) (hw1 : wh < 256) (hm : wh % 10 = 4) (V : Bool) (S : List UInt8) (hS : S.length ≤ 7) (kk : Nat) (hkk : kind = (kk : Int)) (h1 : 1 ≤ kk) (h2 : kk ≤ 18) (hSB : S = strK.getD kk [])
    (hV : S.any (· == ltr.getD 4 0) = V) (hC : mcheckM (mK kind 4) = if V = true then 0 else 1) :
    Calls Tryd.prog 6 #[.int .i64 kind, .int .u8 wh] w fun e w' => e = .returned (.bool true) ∧ Below w.heap.size w w' := by
  have HT := Go.Lib.hid hT
  have HV := Go.Lib.hid hV
  have ck := fun W hT av cv ab cb => mcheck_any W hT (mK kind 4) av cv ab cb
  rw [hC] at ck
  subst hkk
  have hSl : S.length ≤ 7 := hS
  have sa := strV_at kk (by omega)
  rw [← hSB] at sa
  have SA := Go.Lib.hid sa
  clear sa hSB
  have hk1 : (1 : Int) ≤ (kk : Int) := by omega
  have hk2 : (kk : Int) ≤ 18 := by omega
  have CK := Go.Lib.hid ck
  clear hT hV ck hC
  unfold msgV mK mm0 at CK
  simp only [List.toArray, List.length_nil, List.length_cons] at CK
  go_enter Tryd.func6, Tryd.ntmps6
  go_wp2_with fail
  refine (mawake_any _ HT.out).mono ?_
  rintro e w1 ⟨rfl, hb1⟩
  have hT1 := HT.out.grow hb1
  have B2 : Below w.heap.size w (w1.alloc (.cells #[(.int .i64 (kk : Int)), (.int .u64 0), (.int .u64 0), (.int .i64 0), (.int .i64 0), (.int .u64 0), (.int .u64 0), (.int .u64 0), (.int .i64 0), (.slice none 0 0), (.slice none 0 0)] 32)) := NB.bel hb1 (oneB w1 _) hb1.size
  have B3 : Below w.heap.size w ((w1.alloc (.cells #[(.int .i64 (kk : Int)), (.int .u64 0), (.int .u64 0), (.int .i64 0), (.int .i64 0), (.int .u64 0), (.int .u64 0), (.int .u64 0), (.int .i64 0), (.slice none 0 0), (.slice none 0 0)] 32)).alloc (.cells #[.string (ByteArray.mk #[]), .string (ByteArray.mk #[104, 103, 99, 113, 120]), .string (ByteArray.mk #[104, 103, 99, 113, 112, 100]), .string (ByteArray.mk #[104, 103, 99, 113, 112, 120]), .string (ByteArray.mk #[104, 103, 112]), .string (ByteArray.mk #[104, 103, 112]), .string (ByteArray.mk #[104, 103, 118]), .string (ByteArray.mk #[98, 115]), .string (ByteArray.mk #[98, 115, 120]), .string (ByteArray.mk #[98, 115, 120]), .string (ByteArray.mk #[98, 115]), .string (ByteArray.mk #[98]), .string (ByteArray.mk #[115, 120]), .string (ByteArray.mk #[115]), .string (ByteArray.mk #[99, 113, 112]), .string (ByteArray.mk #[104, 103, 99, 113, 112, 100, 120]), .string (ByteArray.mk #[104, 103, 99, 113, 112, 100]), .string (ByteArray.mk #[99, 113, 112, 100]), .string (ByteArray.mk #[98, 115])] 9)) := NB.bel B2 (oneB (w1.alloc (.cells #[(.int .i64 (kk : Int)), (.int .u64 0), (.int .u64 0), (.int .i64 0), (.int .i64 0), (.int .u64 0), (.int .u64 0), (.int .u64 0), (.int .i64 0), (.slice none 0 0), (.slice none 0 0)] 32)) _) B2.size
  have R3 : Rw ((w1.alloc (.cells #[(.int .i64 (kk : Int)), (.int .u64 0), (.int .u64 0), (.int .i64 0), (.int .i64 0), (.int .u64 0), (.int .u64 0), (.int .u64 0), (.int .i64 0), (.slice none 0 0), (.slice none 0 0)] 32)).alloc (.cells #[.string (ByteArray.mk #[]), .string (ByteArray.mk #[104, 103, 99, 113, 120]), .string (ByteArray.mk #[104, 103, 99, 113, 112, 100]), .string (ByteArray.mk #[104, 103, 99, 113, 112, 120]), .string (ByteArray.mk #[104, 103, 112]), .string (ByteArray.mk #[104, 103, 112]), .string (ByteArray.mk #[104, 103, 118]), .string (ByteArray.mk #[98, 115]), .string (ByteArray.mk #[98, 115, 120]), .string (ByteArray.mk #[98, 115, 120]), .string (ByteArray.mk #[98, 115]), .string (ByteArray.mk #[98]), .string (ByteArray.mk #[115, 120]), .string (ByteArray.mk #[115]), .string (ByteArray.mk #[99, 113, 112]), .string (ByteArray.mk #[104, 103, 99, 113, 112, 100, 120]), .string (ByteArray.mk #[104, 103, 99, 113, 112, 100]), .string (ByteArray.mk #[99, 113, 112, 100]), .string (ByteArray.mk #[98, 115])] 9)) w1.heap.size [(.int .i64 (kk : Int)), (.int .u64 0), (.int .u64 0), (.int .i64 0), (.int .i64 0), (.int .u64 0), (.int .u64 0), (.int .u64 0), (.int .i64 0), (.slice none 0 0), (.slice none 0 0)] 32 := (NB.rw_new w1 _ 32 rfl).below (oneB (w1.alloc (.cells #[(.int .i64 (kk : Int)), (.int .u64 0), (.int .u64 0), (.int .i64 0), (.int .i64 0), (.int .u64 0), (.int .u64 0), (.int .u64 0), (.int .i64 0), (.slice none 0 0), (.slice none 0 0)] 32)) _)
  have z2 : (w1.alloc (.cells #[(.int .i64 (kk : Int)), (.int .u64 0), (.int .u64 0), (.int .i64 0), (.int .i64 0), (.int .u64 0), (.int .u64 0), (.int .u64 0), (.int .i64 0), (.slice none 0 0), (.slice none 0 0)] 32)).heap.size = w1.heap.size + 1 := by simp
  have q0 : ((w1.alloc (.cells #[(.int .i64 (kk : Int)), (.int .u64 0), (.int .u64 0), (.int .i64 0), (.int .i64 0), (.int .u64 0), (.int .u64 0), (.int .u64 0), (.int .i64 0), (.slice none 0 0), (.slice none 0 0)] 32)).alloc (.cells #[.string (ByteArray.mk #[]), .string (ByteArray.mk #[104, 103, 99, 113, 120]), .string (ByteArray.mk #[104, 103, 99, 113, 112, 100]), .string (ByteArray.mk #[104, 103, 99, 113, 112, 120]), .string (ByteArray.mk #[104, 103, 112]), .string (ByteArray.mk #[104, 103, 112]), .string (ByteArray.mk #[104, 103, 118]), .string (ByteArray.mk #[98, 115]), .string (ByteArray.mk #[98, 115, 120]), .string (ByteArray.mk #[98, 115, 120]), .string (ByteArray.mk #[98, 115]), .string (ByteArray.mk #[98]), .string (ByteArray.mk #[115, 120]), .string (ByteArray.mk #[115]), .string (ByteArray.mk #[99, 113, 112]), .string (ByteArray.mk #[104, 103, 99, 113, 112, 100, 120]), .string (ByteArray.mk #[104, 103, 99, 113, 112, 100]), .string (ByteArray.mk #[99, 113, 112, 100]), .string (ByteArray.mk #[98, 115])] 9)).cell? ⟨w1.heap.size + 1, kk, none⟩ = some (.string (ByteArray.mk S.toArray)) := by
    have r : Rw ((w1.alloc (.cells #[(.int .i64 (kk : Int)), (.int .u64 0), (.int .u64 0), (.int .i64 0), (.int .i64 0), (.int .u64 0), (.int .u64 0), (.int .u64 0), (.int .i64 0), (.slice none 0 0), (.slice none 0 0)] 32)).alloc (.cells #[.string (ByteArray.mk #[]), .string (ByteArray.mk #[104, 103, 99, 113, 120]), .string (ByteArray.mk #[104, 103, 99, 113, 112, 100]), .string (ByteArray.mk #[104, 103, 99, 113, 112, 120]), .string (ByteArray.mk #[104, 103, 112]), .string (ByteArray.mk #[104, 103, 112]), .string (ByteArray.mk #[104, 103, 118]), .string (ByteArray.mk #[98, 115]), .string (ByteArray.mk #[98, 115, 120]), .string (ByteArray.mk #[98, 115, 120]), .string (ByteArray.mk #[98, 115]), .string (ByteArray.mk #[98]), .string (ByteArray.mk #[115, 120]), .string (ByteArray.mk #[115]), .string (ByteArray.mk #[99, 113, 112]), .string (ByteArray.mk #[104, 103, 99, 113, 112, 100, 120]), .string (ByteArray.mk #[104, 103, 99, 113, 112, 100]), .string (ByteArray.mk #[99, 113, 112, 100]), .string (ByteArray.mk #[98, 115])] 9)) (w1.alloc (.cells #[(.int .i64 (kk : Int)), (.int .u64 0), (.int .u64 0), (.int .i64 0), (.int .i64 0), (.int .u64 0), (.int .u64 0), (.int .u64 0), (.int .i64 0), (.slice none 0 0), (.slice none 0 0)] 32)).heap.size strV 9 := NB.rw_new (w1.alloc (.cells #[(.int .i64 (kk : Int)), (.int .u64 0), (.int .u64 0), (.int .i64 0), (.int .i64 0), (.int .u64 0), (.int .u64 0), (.int .u64 0), (.int .i64 0), (.slice none 0 0), (.slice none 0 0)] 32)) strV 9 rfl
    rw [z2] at r
    exact r.cell kk _ SA.out
  have c5 := R3.cell 5 _ rfl
  have f5 := R3.free 5
  have B5 : Below w.heap.size w ((w1.alloc (.cells #[(.int .i64 (kk : Int)), (.int .u64 0), (.int .u64 0), (.int .i64 0), (.int .i64 0), (.int .u64 1), (.int .u64 0), (.int .u64 0), (.int .i64 0), (.slice none 0 0), (.slice none 0 0)] 32)).alloc (.cells #[.string (ByteArray.mk #[]), .string (ByteArray.mk #[104, 103, 99, 113, 120]), .string (ByteArray.mk #[104, 103, 99, 113, 112, 100]), .string (ByteArray.mk #[104, 103, 99, 113, 112, 120]), .string (ByteArray.mk #[104, 103, 112]), .string (ByteArray.mk #[104, 103, 112]), .string (ByteArray.mk #[104, 103, 118]), .string (ByteArray.mk #[98, 115]), .string (ByteArray.mk #[98, 115, 120]), .string (ByteArray.mk #[98, 115, 120]), .string (ByteArray.mk #[98, 115]), .string (ByteArray.mk #[98]), .string (ByteArray.mk #[115, 120]), .string (ByteArray.mk #[115]), .string (ByteArray.mk #[99, 113, 112]), .string (ByteArray.mk #[104, 103, 99, 113, 112, 100, 120]), .string (ByteArray.mk #[104, 103, 99, 113, 112, 100]), .string (ByteArray.mk #[99, 113, 112, 100]), .string (ByteArray.mk #[98, 115])] 9)) := NB.bel (NB.bel hb1 (oneB w1 _) hb1.size) (oneB (w1.alloc (.cells #[(.int .i64 (kk : Int)), (.int .u64 0), (.int .u64 0), (.int .i64 0), (.int .i64 0), (.int .u64 1), (.int .u64 0), (.int .u64 0), (.int .i64 0), (.slice none 0 0), (.slice none 0 0)] 32)) _) (NB.bel hb1 (oneB w1 _) hb1.size).size
  have R5 : Rw ((w1.alloc (.cells #[(.int .i64 (kk : Int)), (.int .u64 0), (.int .u64 0), (.int .i64 0), (.int .i64 0), (.int .u64 1), (.int .u64 0), (.int .u64 0), (.int .i64 0), (.slice none 0 0), (.slice none 0 0)] 32)).alloc (.cells #[.string (ByteArray.mk #[]), .string (ByteArray.mk #[104, 103, 99, 113, 120]), .string (ByteArray.mk #[104, 103, 99, 113, 112, 100]), .string (ByteArray.mk #[104, 103, 99, 113, 112, 120]), .string (ByteArray.mk #[104, 103, 112]), .string (ByteArray.mk #[104, 103, 112]), .string (ByteArray.mk #[104, 103, 118]), .string (ByteArray.mk #[98, 115]), .string (ByteArray.mk #[98, 115, 120]), .string (ByteArray.mk #[98, 115, 120]), .string (ByteArray.mk #[98, 115]), .string (ByteArray.mk #[98]), .string (ByteArray.mk #[115, 120]), .string (ByteArray.mk #[115]), .string (ByteArray.mk #[99, 113, 112]), .string (ByteArray.mk #[104, 103, 99, 113, 112, 100, 120]), .string (ByteArray.mk #[104, 103, 99, 113, 112, 100]), .string (ByteArray.mk #[99, 113, 112, 100]), .string (ByteArray.mk #[98, 115])] 9)) w1.heap.size [(.int .i64 (kk : Int)), (.int .u64 0), (.int .u64 0), (.int .i64 0), (.int .i64 0), (.int .u64 1), (.int .u64 0), (.int .u64 0), (.int .i64 0), (.slice none 0 0), (.slice none 0 0)] 32 := (NB.rw_new w1 _ 32 rfl).below (oneB (w1.alloc (.cells #[(.int .i64 (kk : Int)), (.int .u64 0), (.int .u64 0), (.int .i64 0), (.int .i64 0), (.int .u64 1), (.int .u64 0), (.int .u64 0), (.int .i64 0), (.slice none 0 0), (.slice none 0 0)] 32)) _)
  have hT5 := HT.out.grow B5
  have l5 := R5.lt
  clear R3 B2 B3 hb1 hT1
  go_wp2_with fail
  go_loopw [10, 11] (fun x y wr => ∃ i : Nat, i ≤ S.length ∧ x = .bool ((S.take i).any (· == 99)) ∧ y = .int .i64 (i : Int) ∧ Below w.heap.size w wr ∧ Rw wr w1.heap.size [(.int .i64 (kk : Int)), (.int .u64 0), (.int .u64 0), (.int .i64 0), (.int .i64 0), (.int .u64 1), (.int .u64 0), (.int .u64 0), (.int .i64 0), (.slice none 0 0), (.slice none 0 0)] 32) (fun _ y _ => S.length - (intOf y).toNat)
  case atStart => exact ⟨0, by omega, rfl, rfl, B5, R5⟩
  case round =>
    obtain ⟨i, hi, rfl, rfl, BR, RR⟩ := hrel
    clear B5 R5 hT5 hm
    by_cases hlt : i < S.length
    case neg =>
      have hli : ¬ (i : Int) < (S.length : Int) := by omega
      rw [List.take_of_length_le (by omega)]
      have hv : S.any (· == 99) = V := HV.out
      rw [hv]
      clear hv
      have e0 := RR.cell 0 _ rfl
      have e1 := RR.cell 1 _ rfl
      have e2 := RR.cell 2 _ rfl
      have e3 := RR.cell 3 _ rfl
      have e4 := RR.cell 4 _ rfl
      have e5 := RR.cell 5 _ rfl
      have e6 := RR.cell 6 _ rfl
      have e7 := RR.cell 7 _ rfl
      have e8 := RR.cell 8 _ rfl
      have e9 := RR.cell 9 _ rfl
      have e10 := RR.cell 10 _ rfl
      cases V
      all_goals (
        simp only [Bool.false_eq_true, if_true, if_false, reduceIte] at CK
        go_wp2_with fail
        refine (CK.out _ (HT.out.grow BR) none 0 none 0).mono ?_
        rintro e w9 ⟨rfl, hb9⟩
        have B9 := NB.bel BR hb9 BR.size
        go_wp2_with fail
        go_ret
        exact ⟨rfl, B9⟩)
    have hli : (i : Int) < (S.length : Int) := by omega
    have htk : S.take (i + 1) = S.take i ++ [S[i]] := by rw [List.take_add_one, List.getElem?_eq_getElem hlt]; rfl
    have hix : S.toArray[i]? = some S[i] := by simp [hlt]
    obtain ⟨v, hv⟩ : ∃ v, (S.take i).any (· == 99) = v := ⟨_, rfl⟩
    rw [hv]
    have HN : (S.take (i + 1)).any (· == 99) = (v || S[i] == 99) := by rw [htk, List.any_append, hv]; simp
    have HN := Go.Lib.hid HN
    clear htk hv
    cases v
    · go_wp2_with fail
      refine NB.wp_region_t [] (by kernel_rfl) ?_
      refine NB.t_p 0 rfl (by kernel_rfl) (fun K hK => ?_); go_simp; refine hK _ ?_; clear hK K
      refine NB.t_p 1 rfl (by kernel_rfl) (fun K hK => ?_); go_simp; refine hK _ ?_; clear hK K
      refine NB.t_p 2 rfl (by kernel_rfl) (fun K hK => ?_); go_simp; refine hK _ ?_; clear hK K
      refine NB.t_p 3 rfl (by kernel_rfl) (fun K hK => ?_); go_simp; refine hK _ ?_; clear hK K
      refine NB.t_p 4 rfl (by kernel_rfl) (fun K hK => ?_); go_simp; refine hK _ ?_; clear hK K
      refine NB.t_p 5 rfl (by kernel_rfl) (fun K hK => ?_); go_simp; refine hK _ ?_; clear hK K
      refine NB.t_p 6 rfl (by kernel_rfl) (fun K hK => ?_); go_simp; refine hK _ ?_; clear hK K
      refine NB.t_p 7 rfl (by kernel_rfl) (fun K hK => ?_); go_simp; refine hK _ ?_; clear hK K
      refine NB.t_p 8 rfl (by kernel_rfl) (fun K hK => ?_); go_simp; refine hK _ ?_; clear hK K
      refine NB.t_p 9 rfl (by kernel_rfl) (fun K hK => ?_); go_simp; refine hK _ ?_; clear hK K
      refine NB.t_end (by kernel_rfl) ?_
      go_wp2_with fail
      go_round
      case rel => exact ⟨i + 1, by omega, by rw [HN.out, Bool.false_or]; exact congrArg Value.bool (byte_eq S[i] 99), by go_num, BR.trans (dB _ |>.mono BR.size), RR.below (dB _)⟩
      case measure => simp [intOf]; omega
    · go_wp2_with fail
      refine NB.wp_region_t [] (by kernel_rfl) ?_
      refine NB.t_p 0 rfl (by kernel_rfl) (fun K hK => ?_); go_simp; refine hK _ ?_; clear hK K
      refine NB.t_p 1 rfl (by kernel_rfl) (fun K hK => ?_); go_simp; refine hK _ ?_; clear hK K
      refine NB.t_p 2 rfl (by kernel_rfl) (fun K hK => ?_); go_simp; refine hK _ ?_; clear hK K
      refine NB.t_p 3 rfl (by kernel_rfl) (fun K hK => ?_); go_simp; refine hK _ ?_; clear hK K
      refine NB.t_p 4 rfl (by kernel_rfl) (fun K hK => ?_); go_simp; refine hK _ ?_; clear hK K
      refine NB.t_p 5 rfl (by kernel_rfl) (fun K hK => ?_); go_simp; refine hK _ ?_; clear hK K
      refine NB.t_p 6 rfl (by kernel_rfl) (fun K hK => ?_); go_simp; refine hK _ ?_; clear hK K
      refine NB.t_p 7 rfl (by kernel_rfl) (fun K hK => ?_); go_simp; refine hK _ ?_; clear hK K
      refine NB.t_p 8 rfl (by kernel_rfl) (fun K hK => ?_); go_simp; refine hK _ ?_; clear hK K
      refine NB.t_p 9 rfl (by kernel_rfl) (fun K hK => ?_); go_simp; refine hK _ ?_; clear hK K
      refine NB.t_end (by kernel_rfl) ?_
      go_wp2_with fail
      go_round
      case rel => exact ⟨i + 1, by omega, by rw [HN.out]; rfl, by go_num, BR.trans (dB _ |>.mono BR.size), RR.below (dB _)⟩
      case measure => simp [intOf]; omega

set_option maxRecDepth 100000 in
set_option maxHeartbeats 4000000 in
theorem kinds_B5 (w : World) (hT : Tb w) (kind wh : Int) (hw0 : 0 ≤ wh) (hw1 : wh < 256) (hm : wh % 10 = 5) (V : Bool) (S : List UInt8) (hS : S.length ≤ 7) (kk : Nat) (hkk : kind = (kk : Int)) (h1 : 1 ≤ kk) (h2 : kk ≤ 18) (hSB : S = strK.getD kk [])
    (hV : S.any (· == ltr.getD 5 0) = V) (hC : mcheckM (mK kind 5) = if V = true then 0 else 1) :
    Calls Tryd.prog 6 #[.int .i64 kind, .int .u8 wh] w fun e w' => e = .returned (.bool true) ∧ Below w.heap.size w w' := by
  have HT := Go.Lib.hid hT
  have HV := Go.Lib.hid hV
  have ck := fun W hT av cv ab cb => mcheck_any W hT (mK kind 5) av cv ab cb
  rw [hC] at ck
  subst hkk
  have hSl : S.length ≤ 7 := hS
  have sa := strV_at kk (by omega)
  rw [← hSB] at sa
  have SA := Go.Lib.hid sa
  clear sa hSB
  have hk1 : (1 : Int) ≤ (kk : Int) := by omega
  have hk2 : (kk : Int) ≤ 18 := by omega
  have CK := Go.Lib.hid ck
  clear hT hV ck hC
  unfold msgV mK mm0 at CK
  simp only [List.toArray, List.length_nil, List.length_cons] at CK
  go_enter Tryd.func6, Tryd.ntmps6
  go_wp2_with fail
  refine (mawake_any _ HT.out).mono ?_
  rintro e w1 ⟨rfl, hb1⟩
  have hT1 := HT.out.grow hb1
  have B2 : Below w.heap.size w (w1.alloc (.cells #[(.int .i64 (kk : Int)), (.int .u64 0), (.int .u64 0), (.int .i64 0), (.int .i64 0), (.int .u64 0), (.int .u64 0), (.int .u64 0), (.int .i64 0), (.slice none 0 0), (.slice none 0 0)] 32)) := NB.bel hb1 (oneB w1 _) hb1.size
  have B3 : Below w.heap.size w ((w1.alloc (.cells #[(.int .i64 (kk : Int)), (.int .u64 0), (.int .u64 0), (.int .i64 0), (.int .i64 0), (.int .u64 0), (.int .u64 0), (.int .u64 0), (.int .i64 0), (.slice none 0 0), (.slice none 0 0)] 32)).alloc (.cells #[.string (ByteArray.mk #[]), .string (ByteArray.mk #[104, 103, 99, 113, 120]), .string (ByteArray.mk #[104, 103, 99, 113, 112, 100]), .string (ByteArray.mk #[104, 103, 99, 113, 112, 120]), .string (ByteArray.mk #[104, 103, 112]), .string (ByteArray.mk #[104, 103, 112]), .string (ByteArray.mk #[104, 103, 118]), .string (ByteArray.mk #[98, 115]), .string (ByteArray.mk #[98, 115, 120]), .string (ByteArray.mk #[98, 115, 120]), .string (ByteArray.mk #[98, 115]), .string (ByteArray.mk #[98]), .string (ByteArray.mk #[115, 120]), .string (ByteArray.mk #[115]), .string (ByteArray.mk #[99, 113, 112]), .string (ByteArray.mk #[104, 103, 99, 113, 112, 100, 120]), .string (ByteArray.mk #[104, 103, 99, 113, 112, 100]), .string (ByteArray.mk #[99, 113, 112, 100]), .string (ByteArray.mk #[98, 115])] 9)) := NB.bel B2 (oneB (w1.alloc (.cells #[(.int .i64 (kk : Int)), (.int .u64 0), (.int .u64 0), (.int .i64 0), (.int .i64 0), (.int .u64 0), (.int .u64 0), (.int .u64 0), (.int .i64 0), (.slice none 0 0), (.slice none 0 0)] 32)) _) B2.size
  have R3 : Rw ((w1.alloc (.cells #[(.int .i64 (kk : Int)), (.int .u64 0), (.int .u64 0), (.int .i64 0), (.int .i64 0), (.int .u64 0), (.int .u64 0), (.int .u64 0), (.int .i64 0), (.slice none 0 0), (.slice none 0 0)] 32)).alloc (.cells #[.string (ByteArray.mk #[]), .string (ByteArray.mk #[104, 103, 99, 113, 120]), .string (ByteArray.mk #[104, 103, 99, 113, 112, 100]), .string (ByteArray.mk #[104, 103, 99, 113, 112, 120]), .string (ByteArray.mk #[104, 103, 112]), .string (ByteArray.mk #[104, 103, 112]), .string (ByteArray.mk #[104, 103, 118]), .string (ByteArray.mk #[98, 115]), .string (ByteArray.mk #[98, 115, 120]), .string (ByteArray.mk #[98, 115, 120]), .string (ByteArray.mk #[98, 115]), .string (ByteArray.mk #[98]), .string (ByteArray.mk #[115, 120]), .string (ByteArray.mk #[115]), .string (ByteArray.mk #[99, 113, 112]), .string (ByteArray.mk #[104, 103, 99, 113, 112, 100, 120]), .string (ByteArray.mk #[104, 103, 99, 113, 112, 100]), .string (ByteArray.mk #[99, 113, 112, 100]), .string (ByteArray.mk #[98, 115])] 9)) w1.heap.size [(.int .i64 (kk : Int)), (.int .u64 0), (.int .u64 0), (.int .i64 0), (.int .i64 0), (.int .u64 0), (.int .u64 0), (.int .u64 0), (.int .i64 0), (.slice none 0 0), (.slice none 0 0)] 32 := (NB.rw_new w1 _ 32 rfl).below (oneB (w1.alloc (.cells #[(.int .i64 (kk : Int)), (.int .u64 0), (.int .u64 0), (.int .i64 0), (.int .i64 0), (.int .u64 0), (.int .u64 0), (.int .u64 0), (.int .i64 0), (.slice none 0 0), (.slice none 0 0)] 32)) _)
  have z2 : (w1.alloc (.cells #[(.int .i64 (kk : Int)), (.int .u64 0), (.int .u64 0), (.int .i64 0), (.int .i64 0), (.int .u64 0), (.int .u64 0), (.int .u64 0), (.int .i64 0), (.slice none 0 0), (.slice none 0 0)] 32)).heap.size = w1.heap.size + 1 := by simp
  have q0 : ((w1.alloc (.cells #[(.int .i64 (kk : Int)), (.int .u64 0), (.int .u64 0), (.int .i64 0), (.int .i64 0), (.int .u64 0), (.int .u64 0), (.int .u64 0), (.int .i64 0), (.slice none 0 0), (.slice none 0 0)] 32)).alloc (.cells #[.string (ByteArray.mk #[]), .string (ByteArray.mk #[104, 103, 99, 113, 120]), .string (ByteArray.mk #[104, 103, 99, 113, 112, 100]), .string (ByteArray.mk #[104, 103, 99, 113, 112, 120]), .string (ByteArray.mk #[104, 103, 112]), .string (ByteArray.mk #[104, 103, 112]), .string (ByteArray.mk #[104, 103, 118]), .string (ByteArray.mk #[98, 115]), .string (ByteArray.mk #[98, 115, 120]), .string (ByteArray.mk #[98, 115, 120]), .string (ByteArray.mk #[98, 115]), .string (ByteArray.mk #[98]), .string (ByteArray.mk #[115, 120]), .string (ByteArray.mk #[115]), .string (ByteArray.mk #[99, 113, 112]), .string (ByteArray.mk #[104, 103, 99, 113, 112, 100, 120]), .string (ByteArray.mk #[104, 103, 99, 113, 112, 100]), .string (ByteArray.mk #[99, 113, 112, 100]), .string (ByteArray.mk #[98, 115])] 9)).cell? ⟨w1.heap.size + 1, kk, none⟩ = some (.string (ByteArray.mk S.toArray)) := by
    have r : Rw ((w1.alloc (.cells #[(.int .i64 (kk : Int)), (.int .u64 0), (.int .u64 0), (.int .i64 0), (.int .i64 0), (.int .u64 0), (.int .u64 0), (.int .u64 0), (.int .i64 0), (.slice none 0 0), (.slice none 0 0)] 32)).alloc (.cells #[.string (ByteArray.mk #[]), .string (ByteArray.mk #[104, 103, 99, 113, 120]), .string (ByteArray.mk #[104, 103, 99, 113, 112, 100]), .string (ByteArray.mk #[104, 103, 99, 113, 112, 120]), .string (ByteArray.mk #[104, 103, 112]), .string (ByteArray.mk #[104, 103, 112]), .string (ByteArray.mk #[104, 103, 118]), .string (ByteArray.mk #[98, 115]), .string (ByteArray.mk #[98, 115, 120]), .string (ByteArray.mk #[98, 115, 120]), .string (ByteArray.mk #[98, 115]), .string (ByteArray.mk #[98]), .string (ByteArray.mk #[115, 120]), .string (ByteArray.mk #[115]), .string (ByteArray.mk #[99, 113, 112]), .string (ByteArray.mk #[104, 103, 99, 113, 112, 100, 120]), .string (ByteArray.mk #[104, 103, 99, 113, 112, 100]), .string (ByteArray.mk #[99, 113, 112, 100]), .string (ByteArray.mk #[98, 115])] 9)) (w1.alloc (.cells #[(.int .i64 (kk : Int)), (.int .u64 0), (.int .u64 0), (.int .i64 0), (.int .i64 0), (.int .u64 0), (.int .u64 0), (.int .u64 0), (.int .i64 0), (.slice none 0 0), (.slice none 0 0)] 32)).heap.size strV 9 := NB.rw_new (w1.alloc (.cells #[(.int .i64 (kk : Int)), (.int .u64 0), (.int .u64 0), (.int .i64 0), (.int .i64 0), (.int .u64 0), (.int .u64 0), (.int .u64 0), (.int .i64 0), (.slice none 0 0), (.slice none 0 0)] 32)) strV 9 rfl
    rw [z2] at r
    exact r.cell kk _ SA.out
  have c6 := R3.cell 6 _ rfl
  have f6 := R3.free 6
  have B5 : Below w.heap.size w ((w1.alloc (.cells #[(.int .i64 (kk : Int)), (.int .u64 0), (.int .u64 0), (.int .i64 0), (.int .i64 0), (.int .u64 0), (.int .u64 1), (.int .u64 0), (.int .i64 0), (.slice none 0 0), (.slice none 0 0)] 32)).alloc (.cells #[.string (ByteArray.mk #[]), .string (ByteArray.mk #[104, 103, 99, 113, 120]), .string (ByteArray.mk #[104, 103, 99, 113, 112, 100]), .string (ByteArray.mk #[104, 103, 99, 113, 112, 120]), .string (ByteArray.mk #[104, 103, 112]), .string (ByteArray.mk #[104, 103, 112]), .string (ByteArray.mk #[104, 103, 118]), .string (ByteArray.mk #[98, 115]), .string (ByteArray.mk #[98, 115, 120]), .string (ByteArray.mk #[98, 115, 120]), .string (ByteArray.mk #[98, 115]), .string (ByteArray.mk #[98]), .string (ByteArray.mk #[115, 120]), .string (ByteArray.mk #[115]), .string (ByteArray.mk #[99, 113, 112]), .string (ByteArray.mk #[104, 103, 99, 113, 112, 100, 120]), .string (ByteArray.mk #[104, 103, 99, 113, 112, 100]), .string (ByteArray.mk #[99, 113, 112, 100]), .string (ByteArray.mk #[98, 115])] 9)) := NB.bel (NB.bel hb1 (oneB w1 _) hb1.size) (oneB (w1.alloc (.cells #[(.int .i64 (kk : Int)), (.int .u64 0), (.int .u64 0), (.int .i64 0), (.int .i64 0), (.int .u64 0), (.int .u64 1), (.int .u64 0), (.int .i64 0), (.slice none 0 0), (.slice none 0 0)] 32)) _) (NB.bel hb1 (oneB w1 _) hb1.size).size
  have R5 : Rw ((w1.alloc (.cells #[(.int .i64 (kk : Int)), (.int .u64 0), (.int .u64 0), (.int .i64 0), (.int .i64 0), (.int .u64 0), (.int .u64 1), (.int .u64 0), (.int .i64 0), (.slice none 0 0), (.slice none 0 0)] 32)).alloc (.cells #[.string (ByteArray.mk #[]), .string (ByteArray.mk #[104, 103, 99, 113, 120]), .string (ByteArray.mk #[104, 103, 99, 113, 112, 100]), .string (ByteArray.mk #[104, 103, 99, 113, 112, 120]), .string (ByteArray.mk #[104, 103, 112]), .string (ByteArray.mk #[104, 103, 112]), .string (ByteArray.mk #[104, 103, 118]), .string (ByteArray.mk #[98, 115]), .string (ByteArray.mk #[98, 115, 120]), .string (ByteArray.mk #[98, 115, 120]), .string (ByteArray.mk #[98, 115]), .string (ByteArray.mk #[98]), .string (ByteArray.mk #[115, 120]), .string (ByteArray.mk #[115]), .string (ByteArray.mk #[99, 113, 112]), .string (ByteArray.mk #[104, 103, 99, 113, 112, 100, 120]), .string (ByteArray.mk #[104, 103, 99, 113, 112, 100]), .string (ByteArray.mk #[99, 113, 112, 100]), .string (ByteArray.mk #[98, 115])] 9)) w1.heap.size [(.int .i64 (kk : Int)), (.int .u64 0), (.int .u64 0), (.int .i64 0), (.int .i64 0), (.int .u64 0), (.int .u64 1), (.int .u64 0), (.int .i64 0), (.slice none 0 0), (.slice none 0 0)] 32 := (NB.rw_new w1 _ 32 rfl).below (oneB (w1.alloc (.cells #[(.int .i64 (kk : Int)), (.int .u64 0), (.int .u64 0), (.int .i64 0), (.int .i64 0), (.int .u64 0), (.int .u64 1), (.int .u64 0), (.int .i64 0), (.slice none 0 0), (.slice none 0 0)] 32)) _)
  have hT5 := HT.out.grow B5
  have l5 := R5.lt
  clear R3 B2 B3 hb1 hT1
  go_wp2_with fail
  go_loopw [10, 11] (fun x y wr => ∃ i : Nat, i ≤ S.length ∧ x = .bool ((S.take i).any (· == 113)) ∧ y = .int .i64 (i : Int) ∧ Below w.heap.size w wr ∧ Rw wr w1.heap.size [(.int .i64 (kk : Int)), (.int .u64 0), (.int .u64 0), (.int .i64 0), (.int .i64 0), (.int .u64 0), (.int .u64 1), (.int .u64 0), (.int .i64 0), (.slice none 0 0), (.slice none 0 0)] 32) (fun _ y _ => S.length - (intOf y).toNat)
  case atStart => exact ⟨0, by omega, rfl, rfl, B5, R5⟩
  case round =>
    obtain ⟨i, hi, rfl, rfl, BR, RR⟩ := hrel
    clear B5 R5 hT5 hm
    by_cases hlt : i < S.length
    case neg =>
      have hli : ¬ (i : Int) < (S.length : Int) := by omega
      rw [List.take_of_length_le (by omega)]
      have hv : S.any (· == 113) = V := HV.out
      rw [hv]
      clear hv
      have e0 := RR.cell 0 _ rfl
      have e1 := RR.cell 1 _ rfl
      have e2 := RR.cell 2 _ rfl
      have e3 := RR.cell 3 _ rfl
      have e4 := RR.cell 4 _ rfl
      have e5 := RR.cell 5 _ rfl
      have e6 := RR.cell 6 _ rfl
      have e7 := RR.cell 7 _ rfl
      have e8 := RR.cell 8 _ rfl
      have e9 := RR.cell 9 _ rfl
      have e10 := RR.cell 10 _ rfl
      cases V
      all_goals (
        simp only [Bool.false_eq_true, if_true, if_false, reduceIte] at CK
        go_wp2_with fail
        refine (CK.out _ (HT.out.grow BR) none 0 none 0).mono ?_
        rintro e w9 ⟨rfl, hb9⟩
        have B9 := NB.bel BR hb9 BR.size
        go_wp2_with fail
        go_ret
        exact ⟨rfl, B9⟩)
    have hli : (i : Int) < (S.length : Int) := by omega
    have htk : S.take (i + 1) = S.take i ++ [S[i]] := by rw [List.take_add_one, List.getElem?_eq_getElem hlt]; rfl
    have hix : S.toArray[i]? = some S[i] := by simp [hlt]
    obtain ⟨v, hv⟩ : ∃ v, (S.take i).any (· == 113) = v := ⟨_, rfl⟩
    rw [hv]
    have HN : (S.take (i + 1)).any (· == 113) = (v || S[i] == 113) := by rw [htk, List.any_append, hv]; simp
    have HN := Go.Lib.hid HN
    clear htk hv
    cases v
    · go_wp2_with fail
      refine NB.wp_region_t [] (by kernel_rfl) ?_
      refine NB.t_p 0 rfl (by kernel_rfl) (fun K hK => ?_); go_simp; refine hK _ ?_; clear hK K
      refine NB.t_p 1 rfl (by kernel_rfl) (fun K hK => ?_); go_simp; refine hK _ ?_; clear hK K
      refine NB.t_p 2 rfl (by kernel_rfl) (fun K hK => ?_); go_simp; refine hK _ ?_; clear hK K
      refine NB.t_p 3 rfl (by kernel_rfl) (fun K hK => ?_); go_simp; refine hK _ ?_; clear hK K
      refine NB.t_p 4 rfl (by kernel_rfl) (fun K hK => ?_); go_simp; refine hK _ ?_; clear hK K
      refine NB.t_p 5 rfl (by kernel_rfl) (fun K hK => ?_); go_simp; refine hK _ ?_; clear hK K
      refine NB.t_p 6 rfl (by kernel_rfl) (fun K hK => ?_); go_simp; refine hK _ ?_; clear hK K
      refine NB.t_p 7 rfl (by kernel_rfl) (fun K hK => ?_); go_simp; refine hK _ ?_; clear hK K
      refine NB.t_p 8 rfl (by kernel_rfl) (fun K hK => ?_); go_simp; refine hK _ ?_; clear hK K
      refine NB.t_p 9 rfl (by kernel_rfl) (fun K hK => ?_); go_simp; refine hK _ ?_; clear hK K
      refine NB.t_end (by kernel_rfl) ?_
      go_wp2_with fail
      go_round
      case rel => exact ⟨i + 1, by omega, by rw [HN.out, Bool.false_or]; exact congrArg Value.bool (byte_eq S[i] 113), by go_num, BR.trans (dB _ |>.mono BR.size), RR.below (dB _)⟩
      case measure => simp [intOf]; omega
    · go_wp2_with fail
      refine NB.wp_region_t [] (by kernel_rfl) ?_
      refine NB.t_p 0 rfl (by kernel_rfl) (fun K hK => ?_); go_simp; refine hK _ ?_; clear hK K
      refine NB.t_p 1 rfl (by kernel_rfl) (fun K hK => ?_); go_simp; refine hK _ ?_; clear hK K
      refine NB.t_p 2 rfl (by kernel_rfl) (fun K hK => ?_); go_simp; refine hK _ ?_; clear hK K
      refine NB.t_p 3 rfl (by kernel_rfl) (fun K hK => ?_); go_simp; refine hK _ ?_; clear hK K
      refine NB.t_p 4 rfl (by kernel_rfl) (fun K hK => ?_); go_simp; refine hK _ ?_; clear hK K
      refine NB.t_p 5 rfl (by kernel_rfl) (fun K hK => ?_); go_simp; refine hK _ ?_; clear hK K
      refine NB.t_p 6 rfl (by kernel_rfl) (fun K hK => ?_); go_simp; refine hK _ ?_; clear hK K
      refine NB.t_p 7 rfl (by kernel_rfl) (fun K hK => ?_); go_simp; refine hK _ ?_; clear hK K
      refine NB.t_p 8 rfl (by kernel_rfl) (fun K hK => ?_); go_simp; refine hK _ ?_; clear hK K
      refine NB.t_p 9 rfl (by kernel_rfl) (fun K hK => ?_); go_simp; refine hK _ ?_; clear hK K
      refine NB.t_end (by kernel_rfl) ?_
      go_wp2_with fail
      go_round
      case rel => exact ⟨i + 1, by omega, by rw [HN.out]; rfl, by go_num, BR.trans (dB _ |>.mono BR.size), RR.below (dB _)⟩
      case measure => simp [intOf]; omega

set_option maxRecDepth 100000 in
set_option maxHeartbeats 4000000 in
theorem kinds_B6 (w : World) (hT : Tb w) (kind wh : Int) (hw0 : 0 ≤ wh) (hw1 : wh < 256) (hm : wh % 10 = 6) (V : Bool) (S : List UInt8) (hS : S.length ≤ 7) (kk : Nat) (hkk : kind = (kk : Int)) (h1 : 1 ≤ kk) (h2 : kk ≤ 18) (hSB : S = strK.getD kk [])
    (hV : S.any (· == ltr.getD 6 0) = V) (hC : mcheckM (mK kind 6) = if V = true then 0 else 1) :
    Calls Tryd.prog 6 #[.int .i64 kind, .int .u8 wh] w fun e w' => e = .returned (.bool true) ∧ Below w.heap.size w w' := by
  have HT := Go.Lib.hid hT
  have HV := Go.Lib.hid hV
  have ck := fun W hT av cv ab cb => mcheck_any W hT (mK kind 6) av cv ab cb
  rw [hC] at ck
  subst hkk
  have hSl : S.length ≤ 7 := hS
  have sa := strV_at kk (by omega)
  rw [← hSB] at sa
  have SA := Go.Lib.hid sa
  clear sa hSB
  have hk1 : (1 : Int) ≤ (kk : Int) := by omega
  have hk2 : (kk : Int) ≤ 18 := by omega
  have CK := Go.Lib.hid ck
  clear hT hV ck hC
  unfold msgV mK mm0 at CK
  simp only [List.toArray, List.length_nil, List.length_cons] at CK
  go_enter Tryd.func6, Tryd.ntmps6
  go_wp2_with fail
  refine (mawake_any _ HT.out).mono ?_
  rintro e w1 ⟨rfl, hb1⟩
  have hT1 := HT.out.grow hb1
  have B2 : Below w.heap.size w (w1.alloc (.cells #[(.int .i64 (kk : Int)), (.int .u64 0), (.int .u64 0), (.int .i64 0), (.int .i64 0), (.int .u64 0), (.int .u64 0), (.int .u64 0), (.int .i64 0), (.slice none 0 0), (.slice none 0 0)] 32)) := NB.bel hb1 (oneB w1 _) hb1.size
  have B3 : Below w.heap.size w ((w1.alloc (.cells #[(.int .i64 (kk : Int)), (.int .u64 0), (.int .u64 0), (.int .i64 0), (.int .i64 0), (.int .u64 0), (.int .u64 0), (.int .u64 0), (.int .i64 0), (.slice none 0 0), (.slice none 0 0)] 32)).alloc (.cells #[.string (ByteArray.mk #[]), .string (ByteArray.mk #[104, 103, 99, 113, 120]), .string (ByteArray.mk #[104, 103, 99, 113, 112, 100]), .string (ByteArray.mk #[104, 103, 99, 113, 112, 120]), .string (ByteArray.mk #[104, 103, 112]), .string (ByteArray.mk #[104, 103, 112]), .string (ByteArray.mk #[104, 103, 118]), .string (ByteArray.mk #[98, 115]), .string (ByteArray.mk #[98, 115, 120]), .string (ByteArray.mk #[98, 115, 120]), .string (ByteArray.mk #[98, 115]), .string (ByteArray.mk #[98]), .string (ByteArray.mk #[115, 120]), .string (ByteArray.mk #[115]), .string (ByteArray.mk #[99, 113, 112]), .string (ByteArray.mk #[104, 103, 99, 113, 112, 100, 120]), .string (ByteArray.mk #[104, 103, 99, 113, 112, 100]), .string (ByteArray.mk #[99, 113, 112, 100]), .string (ByteArray.mk #[98, 115])] 9)) := NB.bel B2 (oneB (w1.alloc (.cells #[(.int .i64 (kk : Int)), (.int .u64 0), (.int .u64 0), (.int .i64 0), (.int .i64 0), (.int .u64 0), (.int .u64 0), (.int .u64 0), (.int .i64 0), (.slice none 0 0), (.slice none 0 0)] 32)) _) B2.size
  have R3 : Rw ((w1.alloc (.cells #[(.int .i64 (kk : Int)), (.int .u64 0), (.int .u64 0), (.int .i64 0), (.int .i64 0), (.int .u64 0), (.int .u64 0), (.int .u64 0), (.int .i64 0), (.slice none 0 0), (.slice none 0 0)] 32)).alloc (.cells #[.string (ByteArray.mk #[]), .string (ByteArray.mk #[104, 103, 99, 113, 120]), .string (ByteArray.mk #[104, 103, 99, 113, 112, 100]), .string (ByteArray.mk #[104, 103, 99, 113, 112, 120]), .string (ByteArray.mk #[104, 103, 112]), .string (ByteArray.mk #[104, 103, 112]), .string (ByteArray.mk #[104, 103, 118]), .string (ByteArray.mk #[98, 115]), .string (ByteArray.mk #[98, 115, 120]), .string (ByteArray.mk #[98, 115, 120]), .string (ByteArray.mk #[98, 115]), .string (ByteArray.mk #[98]), .string (ByteArray.mk #[115, 120]), .string (ByteArray.mk #[115]), .string (ByteArray.mk #[99, 113, 112]), .string (ByteArray.mk #[104, 103, 99, 113, 112, 100, 120]), .string (ByteArray.mk #[104, 103, 99, 113, 112, 100]), .string (ByteArray.mk #[99, 113, 112, 100]), .string (ByteArray.mk #[98, 115])] 9)) w1.heap.size [(.int .i64 (kk : Int)), (.int .u64 0), (.int .u64 0), (.int .i64 0), (.int .i64 0), (.int .u64 0), (.int .u64 0), (.int .u64 0), (.int .i64 0), (.slice none 0 0), (.slice none 0 0)] 32 := (NB.rw_new w1 _ 32 rfl).below (oneB (w1.alloc (.cells #[(.int .i64 (kk : Int)), (.int .u64 0), (.int .u64 0), (.int .i64 0), (.int .i64 0), (.int .u64 0), (.int .u64 0), (.int .u64 0), (.int .i64 0), (.slice none 0 0), (.slice none 0 0)] 32)) _)
  have z2 : (w1.alloc (.cells #[(.int .i64 (kk : Int)), (.int .u64 0), (.int .u64 0), (.int .i64 0), (.int .i64 0), (.int .u64 0), (.int .u64 0), (.int .u64 0), (.int .i64 0), (.slice none 0 0), (.slice none 0 0)] 32)).heap.size = w1.heap.size + 1 := by simp
  have q0 : ((w1.alloc (.cells #[(.int .i64 (kk : Int)), (.int .u64 0), (.int .u64 0), (.int .i64 0), (.int .i64 0), (.int .u64 0), (.int .u64 0), (.int .u64 0), (.int .i64 0), (.slice none 0 0), (.slice none 0 0)] 32)).alloc (.cells #[.string (ByteArray.mk #[]), .string (ByteArray.mk #[104, 103, 99, 113, 120]), .string (ByteArray.mk #[104, 103, 99, 113, 112, 100]), .string (ByteArray.mk #[104, 103, 99, 113, 112, 120]), .string (ByteArray.mk #[104, 103, 112]), .string (ByteArray.mk #[104, 103, 112]), .string (ByteArray.mk #[104, 103, 118]), .string (ByteArray.mk #[98, 115]), .string (ByteArray.mk #[98, 115, 120]), .string (ByteArray.mk #[98, 115, 120]), .string (ByteArray.mk #[98, 115]), .string (ByteArray.mk #[98]), .string (ByteArray.mk #[115, 120]), .string (ByteArray.mk #[115]), .string (ByteArray.mk #[99, 113, 112]), .string (ByteArray.mk #[104, 103, 99, 113, 112, 100, 120]), .string (ByteArray.mk #[104, 103, 99, 113, 112, 100]), .string (ByteArray.mk #[99, 113, 112, 100]), .string (ByteArray.mk #[98, 115])] 9)).cell? ⟨w1.heap.size + 1, kk, none⟩ = some (.string (ByteArray.mk S.toArray)) := by
    have r : Rw ((w1.alloc (.cells #[(.int .i64 (kk : Int)), (.int .u64 0), (.int .u64 0), (.int .i64 0), (.int .i64 0), (.int .u64 0), (.int .u64 0), (.int .u64 0), (.int .i64 0), (.slice none 0 0), (.slice none 0 0)] 32)).alloc (.cells #[.string (ByteArray.mk #[]), .string (ByteArray.mk #[104, 103, 99, 113, 120]), .string (ByteArray.mk #[104, 103, 99, 113, 112, 100]), .string (ByteArray.mk #[104, 103, 99, 113, 112, 120]), .string (ByteArray.mk #[104, 103, 112]), .string (ByteArray.mk #[104, 103, 112]), .string (ByteArray.mk #[104, 103, 118]), .string (ByteArray.mk #[98, 115]), .string (ByteArray.mk #[98, 115, 120]), .string (ByteArray.mk #[98, 115, 120]), .string (ByteArray.mk #[98, 115]), .string (ByteArray.mk #[98]), .string (ByteArray.mk #[115, 120]), .string (ByteArray.mk #[115]), .string (ByteArray.mk #[99, 113, 112]), .string (ByteArray.mk #[104, 103, 99, 113, 112, 100, 120]), .string (ByteArray.mk #[104, 103, 99, 113, 112, 100]), .string (ByteArray.mk #[99, 113, 112, 100]), .string (ByteArray.mk #[98, 115])] 9)) (w1.alloc (.cells #[(.int .i64 (kk : Int)), (.int .u64 0), (.int .u64 0), (.int .i64 0), (.int .i64 0), (.int .u64 0), (.int .u64 0), (.int .u64 0), (.int .i64 0), (.slice none 0 0), (.slice none 0 0)] 32)).heap.size strV 9 := NB.rw_new (w1.alloc (.cells #[(.int .i64 (kk : Int)), (.int .u64 0), (.int .u64 0), (.int .i64 0), (.int .i64 0), (.int .u64 0), (.int .u64 0), (.int .u64 0), (.int .i64 0), (.slice none 0 0), (.slice none 0 0)] 32)) strV 9 rfl
    rw [z2] at r
    exact r.cell kk _ SA.out
  have c7 := R3.cell 7 _ rfl
  have f7 := R3.free 7
  have B5 : Below w.heap.size w ((w1.alloc (.cells #[(.int .i64 (kk : Int)), (.int .u64 0), (.int .u64 0), (.int .i64 0), (.int .i64 0), (.int .u64 0), (.int .u64 0), (.int .u64 1), (.int .i64 0), (.slice none 0 0), (.slice none 0 0)] 32)).alloc (.cells #[.string (ByteArray.mk #[]), .string (ByteArray.mk #[104, 103, 99, 113, 120]), .string (ByteArray.mk #[104, 103, 99, 113, 112, 100]), .string (ByteArray.mk #[104, 103, 99, 113, 112, 120]), .string (ByteArray.mk #[104, 103, 112]), .string (ByteArray.mk #[104, 103, 112]), .string (ByteArray.mk #[104, 103, 118]), .string (ByteArray.mk #[98, 115]), .string (ByteArray.mk #[98, 115, 120]), .string (ByteArray.mk #[98, 115, 120]), .string (ByteArray.mk #[98, 115]), .string (ByteArray.mk #[98]), .string (ByteArray.mk #[115, 120]), .string (ByteArray.mk #[115]), .string (ByteArray.mk #[99, 113, 112]), .string (ByteArray.mk #[104, 103, 99, 113, 112, 100, 120]), .string (ByteArray.mk #[104, 103, 99, 113, 112, 100]), .string (ByteArray.mk #[99, 113, 112, 100]), .string (ByteArray.mk #[98, 115])] 9)) := NB.bel (NB.bel hb1 (oneB w1 _) hb1.size) (oneB (w1.alloc (.cells #[(.int .i64 (kk : Int)), (.int .u64 0), (.int .u64 0), (.int .i64 0), (.int .i64 0), (.int .u64 0), (.int .u64 0), (.int .u64 1), (.int .i64 0), (.slice none 0 0), (.slice none 0 0)] 32)) _) (NB.bel hb1 (oneB w1 _) hb1.size).size
  have R5 : Rw ((w1.alloc (.cells #[(.int .i64 (kk : Int)), (.int .u64 0), (.int .u64 0), (.int .i64 0), (.int .i64 0), (.int .u64 0), (.int .u64 0), (.int .u64 1), (.int .i64 0), (.slice none 0 0), (.slice none 0 0)] 32)).alloc (.cells #[.string (ByteArray.mk #[]), .string (ByteArray.mk #[104, 103, 99, 113, 120]), .string (ByteArray.mk #[104, 103, 99, 113, 112, 100]), .string (ByteArray.mk #[104, 103, 99, 113, 112, 120]), .string (ByteArray.mk #[104, 103, 112]), .string (ByteArray.mk #[104, 103, 112]), .string (ByteArray.mk #[104, 103, 118]), .string (ByteArray.mk #[98, 115]), .string (ByteArray.mk #[98, 115, 120]), .string (ByteArray.mk #[98, 115, 120]), .string (ByteArray.mk #[98, 115]), .string (ByteArray.mk #[98]), .string (ByteArray.mk #[115, 120]), .string (ByteArray.mk #[115]), .string (ByteArray.mk #[99, 113, 112]), .string (ByteArray.mk #[104, 103, 99, 113, 112, 100, 120]), .string (ByteArray.mk #[104, 103, 99, 113, 112, 100]), .string (ByteArray.mk #[99, 113, 112, 100]), .string (ByteArray.mk #[98, 115])] 9)) w1.heap.size [(.int .i64 (kk : Int)), (.int .u64 0), (.int .u64 0), (.int .i64 0), (.int .i64 0), (.int .u64 0), (.int .u64 0), (.int .u64 1), (.int .i64 0), (.slice none 0 0), (.slice none 0 0)] 32 := (NB.rw_new w1 _ 32 rfl).below (oneB (w1.alloc (.cells #[(.int .i64 (kk : Int)), (.int .u64 0), (.int .u64 0), (.int .i64 0), (.int .i64 0), (.int .u64 0), (.int .u64 0), (.int .u64 1), (.int .i64 0), (.slice none 0 0), (.slice none 0 0)] 32)) _)
  have hT5 := HT.out.grow B5
  have l5 := R5.lt
  clear R3 B2 B3 hb1 hT1
  go_wp2_with fail
  go_loopw [10, 11] (fun x y wr => ∃ i : Nat, i ≤ S.length ∧ x = .bool ((S.take i).any (· == 112)) ∧ y = .int .i64 (i : Int) ∧ Below w.heap.size w wr ∧ Rw wr w1.heap.size [(.int .i64 (kk : Int)), (.int .u64 0), (.int .u64 0), (.int .i64 0), (.int .i64 0), (.int .u64 0), (.int .u64 0), (.int .u64 1), (.int .i64 0), (.slice none 0 0), (.slice none 0 0)] 32) (fun _ y _ => S.length - (intOf y).toNat)
  case atStart => exact ⟨0, by omega, rfl, rfl, B5, R5⟩
  case round =>
    obtain ⟨i, hi, rfl, rfl, BR, RR⟩ := hrel
    clear B5 R5 hT5 hm
    by_cases hlt : i < S.length
    case neg =>
      have hli : ¬ (i : Int) < (S.length : Int) := by omega
      rw [List.take_of_length_le (by omega)]
      have hv : S.any (· == 112) = V := HV.out
      rw [hv]
      clear hv
      have e0 := RR.cell 0 _ rfl
      have e1 := RR.cell 1 _ rfl
      have e2 := RR.cell 2 _ rfl
      have e3 := RR.cell 3 _ rfl
      have e4 := RR.cell 4 _ rfl
      have e5 := RR.cell 5 _ rfl
      have e6 := RR.cell 6 _ rfl
      have e7 := RR.cell 7 _ rfl
      have e8 := RR.cell 8 _ rfl
      have e9 := RR.cell 9 _ rfl
      have e10 := RR.cell 10 _ rfl
      cases V
      all_goals (
        simp only [Bool.false_eq_true, if_true, if_false, reduceIte] at CK
        go_wp2_with fail
        refine (CK.out _ (HT.out.grow BR) none 0 none 0).mono ?_
        rintro e w9 ⟨rfl, hb9⟩
        have B9 := NB.bel BR hb9 BR.size
        go_wp2_with fail
        go_ret
        exact ⟨rfl, B9⟩)
    have hli : (i : Int) < (S.length : Int) := by omega
    have htk : S.take (i + 1) = S.take i ++ [S[i]] := by rw [List.take_add_one, List.getElem?_eq_getElem hlt]; rfl
    have hix : S.toArray[i]? = some S[i] := by simp [hlt]
    obtain ⟨v, hv⟩ : ∃ v, (S.take i).any (· == 112) = v := ⟨_, rfl⟩
    rw [hv]
    have HN : (S.take (i + 1)).any (· == 112) = (v || S[i] == 112) := by rw [htk, List.any_append, hv]; simp
    have HN := Go.Lib.hid HN
    clear htk hv
    cases v
    · go_wp2_with fail
      refine NB.wp_region_t [] (by kernel_rfl) ?_
      refine NB.t_p 0 rfl (by kernel_rfl) (fun K hK => ?_); go_simp; refine hK _ ?_; clear hK K
      refine NB.t_p 1 rfl (by kernel_rfl) (fun K hK => ?_); go_simp; refine hK _ ?_; clear hK K
      refine NB.t_p 2 rfl (by kernel_rfl) (fun K hK => ?_); go_simp; refine hK _ ?_; clear hK K
      refine NB.t_p 3 rfl (by kernel_rfl) (fun K hK => ?_); go_simp; refine hK _ ?_; clear hK K
      refine NB.t_p 4 rfl (by kernel_rfl) (fun K hK => ?_); go_simp; refine hK _ ?_; clear hK K
      refine NB.t_p 5 rfl (by kernel_rfl) (fun K hK => ?_); go_simp; refine hK _ ?_; clear hK K
      refine NB.t_p 6 rfl (by kernel_rfl) (fun K hK => ?_); go_simp; refine hK _ ?_; clear hK K
      refine NB.t_p 7 rfl (by kernel_rfl) (fun K hK => ?_); go_simp; refine hK _ ?_; clear hK K
      refine NB.t_p 8 rfl (by kernel_rfl) (fun K hK => ?_); go_simp; refine hK _ ?_; clear hK K
      refine NB.t_p 9 rfl (by kernel_rfl) (fun K hK => ?_); go_simp; refine hK _ ?_; clear hK K
      refine NB.t_end (by kernel_rfl) ?_
      go_wp2_with fail
      go_round
      case rel => exact ⟨i + 1, by omega, by rw [HN.out, Bool.false_or]; exact congrArg Value.bool (byte_eq S[i] 112), by go_num, BR.trans (dB _ |>.mono BR.size), RR.below (dB _)⟩
      case measure => simp [intOf]; omega
    · go_wp2_with fail
      refine NB.wp_region_t [] (by kernel_rfl) ?_
      refine NB.t_p 0 rfl (by kernel_rfl) (fun K hK => ?_); go_simp; refine hK _ ?_; clear hK K
      refine NB.t_p 1 rfl (by kernel_rfl) (fun K hK => ?_); go_simp; refine hK _ ?_; clear hK K
      refine NB.t_p 2 rfl (by kernel_rfl) (fun K hK => ?_); go_simp; refine hK _ ?_; clear hK K
      refine NB.t_p 3 rfl (by kernel_rfl) (fun K hK => ?_); go_simp; refine hK _ ?_; clear hK K
      refine NB.t_p 4 rfl (by kernel_rfl) (fun K hK => ?_); go_simp; refine hK _ ?_; clear hK K
      refine NB.t_p 5 rfl (by kernel_rfl) (fun K hK => ?_); go_simp; refine hK _ ?_; clear hK K
      refine NB.t_p 6 rfl (by kernel_rfl) (fun K hK => ?_); go_simp; refine hK _ ?_; clear hK K
      refine NB.t_p 7 rfl (by kernel_rfl) (fun K hK => ?_); go_simp; refine hK _ ?_; clear hK K
      refine NB.t_p 8 rfl (by kernel_rfl) (fun K hK => ?_); go_simp; refine hK _ ?_; clear hK K
      refine NB.t_p 9 rfl (by kernel_rfl) (fun K hK => ?_); go_simp; refine hK _ ?_; clear hK K
      refine NB.t_end (by kernel_rfl) ?_
      go_wp2_with fail
      go_round
      case rel => exact ⟨i + 1, by omega, by rw [HN.out]; rfl, by go_num, BR.trans (dB _ |>.mono BR.size), RR.below (dB _)⟩
      case measure => simp [intOf]; omega

set_option maxRecDepth 100000 in
set_option maxHeartbeats 4000000 in
theorem kinds_B7 (w : World) (hT : Tb w) (kind wh : Int) (hw0 : 0 ≤ wh) (hw1 : wh < 256) (hm : wh % 10 = 7) (V : Bool) (S : List UInt8) (hS : S.length ≤ 7) (kk : Nat) (hkk : kind = (kk : Int)) (h1 : 1 ≤ kk) (h2 : kk ≤ 18) (hSB : S = strK.getD kk [])
    (hV : S.any (· == ltr.getD 7 0) = V) (hC : mcheckM (mK kind 7) = if V = true then 0 else 1) :
    Calls Tryd.prog 6 #[.int .i64 kind, .int .u8 wh] w fun e w' => e = .returned (.bool true) ∧ Below w.heap.size w w' := by
  have HT := Go.Lib.hid hT
  have HV := Go.Lib.hid hV
  have ck := fun W hT av cv ab cb => mcheck_any W hT (mK kind 7) av cv ab cb
  rw [hC] at ck
  subst hkk
  have hSl : S.length ≤ 7 := hS
  have sa := strV_at kk (by omega)
  rw [← hSB] at sa
  have SA := Go.Lib.hid sa
  clear sa hSB
  have hk1 : (1 : Int) ≤ (kk : Int) := by omega
  have hk2 : (kk : Int) ≤ 18 := by omega
  have CK := Go.Lib.hid ck
  clear hT hV ck hC
  unfold msgV mK mm0 at CK
  simp only [List.toArray, List.length_nil, List.length_cons] at CK
  go_enter Tryd.func6, Tryd.ntmps6
  go_wp2_with fail
  refine (mawake_any _ HT.out).mono ?_
  rintro e w1 ⟨rfl, hb1⟩
  have hT1 := HT.out.grow hb1
  have B2 : Below w.heap.size w (w1.alloc (.cells #[(.int .i64 (kk : Int)), (.int .u64 0), (.int .u64 0), (.int .i64 0), (.int .i64 0), (.int .u64 0), (.int .u64 0), (.int .u64 0), (.int .i64 0), (.slice none 0 0), (.slice none 0 0)] 32)) := NB.bel hb1 (oneB w1 _) hb1.size
  have B3 : Below w.heap.size w ((w1.alloc (.cells #[(.int .i64 (kk : Int)), (.int .u64 0), (.int .u64 0), (.int .i64 0), (.int .i64 0), (.int .u64 0), (.int .u64 0), (.int .u64 0), (.int .i64 0), (.slice none 0 0), (.slice none 0 0)] 32)).alloc (.cells #[.string (ByteArray.mk #[]), .string (ByteArray.mk #[104, 103, 99, 113, 120]), .string (ByteArray.mk #[104, 103, 99, 113, 112, 100]), .string (ByteArray.mk #[104, 103, 99, 113, 112, 120]), .string (ByteArray.mk #[104, 103, 112]), .string (ByteArray.mk #[104, 103, 112]), .string (ByteArray.mk #[104, 103, 118]), .string (ByteArray.mk #[98, 115]), .string (ByteArray.mk #[98, 115, 120]), .string (ByteArray.mk #[98, 115, 120]), .string (ByteArray.mk #[98, 115]), .string (ByteArray.mk #[98]), .string (ByteArray.mk #[115, 120]), .string (ByteArray.mk #[115]), .string (ByteArray.mk #[99, 113, 112]), .string (ByteArray.mk #[104, 103, 99, 113, 112, 100, 120]), .string (ByteArray.mk #[104, 103, 99, 113, 112, 100]), .string (ByteArray.mk #[99, 113, 112, 100]), .string (ByteArray.mk #[98, 115])] 9)) := NB.bel B2 (oneB (w1.alloc (.cells #[(.int .i64 (kk : Int)), (.int .u64 0), (.int .u64 0), (.int .i64 0), (.int .i64 0), (.int .u64 0), (.int .u64 0), (.int .u64 0), (.int .i64 0), (.slice none 0 0), (.slice none 0 0)] 32)) _) B2.size
  have R3 : Rw ((w1.alloc (.cells #[(.int .i64 (kk : Int)), (.int .u64 0), (.int .u64 0), (.int .i64 0), (.int .i64 0), (.int .u64 0), (.int .u64 0), (.int .u64 0), (.int .i64 0), (.slice none 0 0), (.slice none 0 0)] 32)).alloc (.cells #[.string (ByteArray.mk #[]), .string (ByteArray.mk #[104, 103, 99, 113, 120]), .string (ByteArray.mk #[104, 103, 99, 113, 112, 100]), .string (ByteArray.mk #[104, 103, 99, 113, 112, 120]), .string (ByteArray.mk #[104, 103, 112]), .string (ByteArray.mk #[104, 103, 112]), .string (ByteArray.mk #[104, 103, 118]), .string (ByteArray.mk #[98, 115]), .string (ByteArray.mk #[98, 115, 120]), .string (ByteArray.mk #[98, 115, 120]), .string (ByteArray.mk #[98, 115]), .string (ByteArray.mk #[98]), .string (ByteArray.mk #[115, 120]), .string (ByteArray.mk #[115]), .string (ByteArray.mk #[99, 113, 112]), .string (ByteArray.mk #[104, 103, 99, 113, 112, 100, 120]), .string (ByteArray.mk #[104, 103, 99, 113, 112, 100]), .string (ByteArray.mk #[99, 113, 112, 100]), .string (ByteArray.mk #[98, 115])] 9)) w1.heap.size [(.int .i64 (kk : Int)), (.int .u64 0), (.int .u64 0), (.int .i64 0), (.int .i64 0), (.int .u64 0), (.int .u64 0), (.int .u64 0), (.int .i64 0), (.slice none 0 0), (.slice none 0 0)] 32 := (NB.rw_new w1 _ 32 rfl).below (oneB (w1.alloc (.cells #[(.int .i64 (kk : Int)), (.int .u64 0), (.int .u64 0), (.int .i64 0), (.int .i64 0), (.int .u64 0), (.int .u64 0), (.int .u64 0), (.int .i64 0), (.slice none 0 0), (.slice none 0 0)] 32)) _)
  have z2 : (w1.alloc (.cells #[(.int .i64 (kk : Int)), (.int .u64 0), (.int .u64 0), (.int .i64 0), (.int .i64 0), (.int .u64 0), (.int .u64 0), (.int .u64 0), (.int .i64 0), (.slice none 0 0), (.slice none 0 0)] 32)).heap.size = w1.heap.size + 1 := by simp
  have q0 : ((w1.alloc (.cells #[(.int .i64 (kk : Int)), (.int .u64 0), (.int .u64 0), (.int .i64 0), (.int .i64 0), (.int .u64 0), (.int .u64 0), (.int .u64 0), (.int .i64 0), (.slice none 0 0), (.slice none 0 0)] 32)).alloc (.cells #[.string (ByteArray.mk #[]), .string (ByteArray.mk #[104, 103, 99, 113, 120]), .string (ByteArray.mk #[104, 103, 99, 113, 112, 100]), .string (ByteArray.mk #[104, 103, 99, 113, 112, 120]), .string (ByteArray.mk #[104, 103, 112]), .string (ByteArray.mk #[104, 103, 112]), .string (ByteArray.mk #[104, 103, 118]), .string (ByteArray.mk #[98, 115]), .string (ByteArray.mk #[98, 115, 120]), .string (ByteArray.mk #[98, 115, 120]), .string (ByteArray.mk #[98, 115]), .string (ByteArray.mk #[98]), .string (ByteArray.mk #[115, 120]), .string (ByteArray.mk #[115]), .string (ByteArray.mk #[99, 113, 112]), .string (ByteArray.mk #[104, 103, 99, 113, 112, 100, 120]), .string (ByteArray.mk #[104, 103, 99, 113, 112, 100]), .string (ByteArray.mk #[99, 113, 112, 100]), .string (ByteArray.mk #[98, 115])] 9)).cell? ⟨w1.heap.size + 1, kk, none⟩ = some (.string (ByteArray.mk S.toArray)) := by
    have r : Rw ((w1.alloc (.cells #[(.int .i64 (kk : Int)), (.int .u64 0), (.int .u64 0), (.int .i64 0), (.int .i64 0), (.int .u64 0), (.int .u64 0), (.int .u64 0), (.int .i64 0), (.slice none 0 0), (.slice none 0 0)] 32)).alloc (.cells #[.string (ByteArray.mk #[]), .string (ByteArray.mk #[104, 103, 99, 113, 120]), .string (ByteArray.mk #[104, 103, 99, 113, 112, 100]), .string (ByteArray.mk #[104, 103, 99, 113, 112, 120]), .string (ByteArray.mk #[104, 103, 112]), .string (ByteArray.mk #[104, 103, 112]), .string (ByteArray.mk #[104, 103, 118]), .string (ByteArray.mk #[98, 115]), .string (ByteArray.mk #[98, 115, 120]), .string (ByteArray.mk #[98, 115, 120]), .string (ByteArray.mk #[98, 115]), .string (ByteArray.mk #[98]), .string (ByteArray.mk #[115, 120]), .string (ByteArray.mk #[115]), .string (ByteArray.mk #[99, 113, 112]), .string (ByteArray.mk #[104, 103, 99, 113, 112, 100, 120]), .string (ByteArray.mk #[104, 103, 99, 113, 112, 100]), .string (ByteArray.mk #[99, 113, 112, 100]), .string (ByteArray.mk #[98, 115])] 9)) (w1.alloc (.cells #[(.int .i64 (kk : Int)), (.int .u64 0), (.int .u64 0), (.int .i64 0), (.int .i64 0), (.int .u64 0), (.int .u64 0), (.int .u64 0), (.int .i64 0), (.slice none 0 0), (.slice none 0 0)] 32)).heap.size strV 9 := NB.rw_new (w1.alloc (.cells #[(.int .i64 (kk : Int)), (.int .u64 0), (.int .u64 0), (.int .i64 0), (.int .i64 0), (.int .u64 0), (.int .u64 0), (.int .u64 0), (.int .i64 0), (.slice none 0 0), (.slice none 0 0)] 32)) strV 9 rfl
    rw [z2] at r
    exact r.cell kk _ SA.out
  have c8 := R3.cell 8 _ rfl
  have f8 := R3.free 8
  have B5 : Below w.heap.size w ((w1.alloc (.cells #[(.int .i64 (kk : Int)), (.int .u64 0), (.int .u64 0), (.int .i64 0), (.int .i64 0), (.int .u64 0), (.int .u64 0), (.int .u64 0), (.int .i64 1), (.slice none 0 0), (.slice none 0 0)] 32)).alloc (.cells #[.string (ByteArray.mk #[]), .string (ByteArray.mk #[104, 103, 99, 113, 120]), .string (ByteArray.mk #[104, 103, 99, 113, 112, 100]), .string (ByteArray.mk #[104, 103, 99, 113, 112, 120]), .string (ByteArray.mk #[104, 103, 112]), .string (ByteArray.mk #[104, 103, 112]), .string (ByteArray.mk #[104, 103, 118]), .string (ByteArray.mk #[98, 115]), .string (ByteArray.mk #[98, 115, 120]), .string (ByteArray.mk #[98, 115, 120]), .string (ByteArray.mk #[98, 115]), .string (ByteArray.mk #[98]), .string (ByteArray.mk #[115, 120]), .string (ByteArray.mk #[115]), .string (ByteArray.mk #[99, 113, 112]), .string (ByteArray.mk #[104, 103, 99, 113, 112, 100, 120]), .string (ByteArray.mk #[104, 103, 99, 113, 112, 100]), .string (ByteArray.mk #[99, 113, 112, 100]), .string (ByteArray.mk #[98, 115])] 9)) := NB.bel (NB.bel hb1 (oneB w1 _) hb1.size) (oneB (w1.alloc (.cells #[(.int .i64 (kk : Int)), (.int .u64 0), (.int .u64 0), (.int .i64 0), (.int .i64 0), (.int .u64 0), (.int .u64 0), (.int .u64 0), (.int .i64 1), (.slice none 0 0), (.slice none 0 0)] 32)) _) (NB.bel hb1 (oneB w1 _) hb1.size).size
  have R5 : Rw ((w1.alloc (.cells #[(.int .i64 (kk : Int)), (.int .u64 0), (.int .u64 0), (.int .i64 0), (.int .i64 0), (.int .u64 0), (.int .u64 0), (.int .u64 0), (.int .i64 1), (.slice none 0 0), (.slice none 0 0)] 32)).alloc (.cells #[.string (ByteArray.mk #[]), .string (ByteArray.mk #[104, 103, 99, 113, 120]), .string (ByteArray.mk #[104, 103, 99, 113, 112, 100]), .string (ByteArray.mk #[104, 103, 99, 113, 112, 120]), .string (ByteArray.mk #[104, 103, 112]), .string (ByteArray.mk #[104, 103, 112]), .string (ByteArray.mk #[104, 103, 118]), .string (ByteArray.mk #[98, 115]), .string (ByteArray.mk #[98, 115, 120]), .string (ByteArray.mk #[98, 115, 120]), .string (ByteArray.mk #[98, 115]), .string (ByteArray.mk #[98]), .string (ByteArray.mk #[115, 120]), .string (ByteArray.mk #[115]), .string (ByteArray.mk #[99, 113, 112]), .string (ByteArray.mk #[104, 103, 99, 113, 112, 100, 120]), .string (ByteArray.mk #[104, 103, 99, 113, 112, 100]), .string (ByteArray.mk #[99, 113, 112, 100]), .string (ByteArray.mk #[98, 115])] 9)) w1.heap.size [(.int .i64 (kk : Int)), (.int .u64 0), (.int .u64 0), (.int .i64 0), (.int .i64 0), (.int .u64 0), (.int .u64 0), (.int .u64 0), (.int .i64 1), (.slice none 0 0), (.slice none 0 0)] 32 := (NB.rw_new w1 _ 32 rfl).below (oneB (w1.alloc (.cells #[(.int .i64 (kk : Int)), (.int .u64 0), (.int .u64 0), (.int .i64 0), (.int .i64 0), (.int .u64 0), (.int .u64 0), (.int .u64 0), (.int .i64 1), (.slice none 0 0), (.slice none 0 0)] 32)) _)
  have hT5 := HT.out.grow B5
  have l5 := R5.lt
  clear R3 B2 B3 hb1 hT1
  go_wp2_with fail
  go_loopw [10, 11] (fun x y wr => ∃ i : Nat, i ≤ S.length ∧ x = .bool ((S.take i).any (· == 100)) ∧ y = .int .i64 (i : Int) ∧ Below w.heap.size w wr ∧ Rw wr w1.heap.size [(.int .i64 (kk : Int)), (.int .u64 0), (.int .u64 0), (.int .i64 0), (.int .i64 0), (.int .u64 0), (.int .u64 0), (.int .u64 0), (.int .i64 1), (.slice none 0 0), (.slice none 0 0)] 32) (fun _ y _ => S.length - (intOf y).toNat)
  case atStart => exact ⟨0, by omega, rfl, rfl, B5, R5⟩
  case round =>
    obtain ⟨i, hi, rfl, rfl, BR, RR⟩ := hrel
    clear B5 R5 hT5 hm
    by_cases hlt : i < S.length
    case neg =>
      have hli : ¬ (i : Int) < (S.length : Int) := by omega
      rw [List.take_of_length_le (by omega)]
      have hv : S.any (· == 100) = V := HV.out
      rw [hv]
      clear hv
      have e0 := RR.cell 0 _ rfl
      have e1 := RR.cell 1 _ rfl
      have e2 := RR.cell 2 _ rfl
      have e3 := RR.cell 3 _ rfl
      have e4 := RR.cell 4 _ rfl
      have e5 := RR.cell 5 _ rfl
      have e6 := RR.cell 6 _ rfl
      have e7 := RR.cell 7 _ rfl
      have e8 := RR.cell 8 _ rfl
      have e9 := RR.cell 9 _ rfl
      have e10 := RR.cell 10 _ rfl
      cases V
      all_goals (
        simp only [Bool.false_eq_true, if_true, if_false, reduceIte] at CK
        go_wp2_with fail
        refine (CK.out _ (HT.out.grow BR) none 0 none 0).mono ?_
        rintro e w9 ⟨rfl, hb9⟩
        have B9 := NB.bel BR hb9 BR.size
        go_wp2_with fail
        go_ret
        exact ⟨rfl, B9⟩)
    have hli : (i : Int) < (S.length : Int) := by omega
    have htk : S.take (i + 1) = S.take i ++ [S[i]] := by rw [List.take_add_one, List.getElem?_eq_getElem hlt]; rfl
    have hix : S.toArray[i]? = some S[i] := by simp [hlt]
    obtain ⟨v, hv⟩ : ∃ v, (S.take i).any (· == 100) = v := ⟨_, rfl⟩
    rw [hv]
    have HN : (S.take (i + 1)).any (· == 100) = (v || S[i] == 100) := by rw [htk, List.any_append, hv]; simp
    have HN := Go.Lib.hid HN
    clear htk hv
    cases v
    · go_wp2_with fail
      refine NB.wp_region_t [] (by kernel_rfl) ?_
      refine NB.t_p 0 rfl (by kernel_rfl) (fun K hK => ?_); go_simp; refine hK _ ?_; clear hK K
      refine NB.t_p 1 rfl (by kernel_rfl) (fun K hK => ?_); go_simp; refine hK _ ?_; clear hK K
      refine NB.t_p 2 rfl (by kernel_rfl) (fun K hK => ?_); go_simp; refine hK _ ?_; clear hK K
      refine NB.t_p 3 rfl (by kernel_rfl) (fun K hK => ?_); go_simp; refine hK _ ?_; clear hK K
      refine NB.t_p 4 rfl (by kernel_rfl) (fun K hK => ?_); go_simp; refine hK _ ?_; clear hK K
      refine NB.t_p 5 rfl (by kernel_rfl) (fun K hK => ?_); go_simp; refine hK _ ?_; clear hK K
      refine NB.t_p 6 rfl (by kernel_rfl) (fun K hK => ?_); go_simp; refine hK _ ?_; clear hK K
      refine NB.t_p 7 rfl (by kernel_rfl) (fun K hK => ?_); go_simp; refine hK _ ?_; clear hK K
      refine NB.t_p 8 rfl (by kernel_rfl) (fun K hK => ?_); go_simp; refine hK _ ?_; clear hK K
      refine NB.t_p 9 rfl (by kernel_rfl) (fun K hK => ?_); go_simp; refine hK _ ?_; clear hK K
      refine NB.t_end (by kernel_rfl) ?_
      go_wp2_with fail
      go_round
      case rel => exact ⟨i + 1, by omega, by rw [HN.out, Bool.false_or]; exact congrArg Value.bool (byte_eq S[i] 100), by go_num, BR.trans (dB _ |>.mono BR.size), RR.below (dB _)⟩
      case measure => simp [intOf]; omega
    · go_wp2_with fail
      refine NB.wp_region_t [] (by kernel_rfl) ?_
      refine NB.t_p 0 rfl (by kernel_rfl) (fun K hK => ?_); go_simp; refine hK _ ?_; clear hK K
      refine NB.t_p 1 rfl (by kernel_rfl) (fun K hK => ?_); go_simp; refine hK _ ?_; clear hK K
      refine NB.t_p 2 rfl (by kernel_rfl) (fun K hK => ?_); go_simp; refine hK _ ?_; clear hK K
      refine NB.t_p 3 rfl (by kernel_rfl) (fun K hK => ?_); go_simp; refine hK _ ?_; clear hK K
      refine NB.t_p 4 rfl (by kernel_rfl) (fun K hK => ?_); go_simp; refine hK _ ?_; clear hK K
      refine NB.t_p 5 rfl (by kernel_rfl) (fun K hK => ?_); go_simp; refine hK _ ?_; clear hK K
      refine NB.t_p 6 rfl (by kernel_rfl) (fun K hK => ?_); go_simp; refine hK _ ?_; clear hK K
      refine NB.t_p 7 rfl (by kernel_rfl) (fun K hK => ?_); go_simp; refine hK _ ?_; clear hK K
      refine NB.t_p 8 rfl (by kernel_rfl) (fun K hK => ?_); go_simp; refine hK _ ?_; clear hK K
      refine NB.t_p 9 rfl (by kernel_rfl) (fun K hK => ?_); go_simp; refine hK _ ?_; clear hK K
      refine NB.t_end (by kernel_rfl) ?_
      go_wp2_with fail
      go_round
      case rel => exact ⟨i + 1, by omega, by rw [HN.out]; rfl, by go_num, BR.trans (dB _ |>.mono BR.size), RR.below (dB _)⟩
      case measure => simp [intOf]; omega

set_option maxRecDepth 100000 in
set_option maxHeartbeats 4000000 in
theorem kinds_B8 (w : World) (hT : Tb w) (kind wh : Int) (hw0 : 0 ≤ wh) (hw1 : wh < 256) (hm : wh % 10 = 8) (V : Bool) (S : List UInt8) (hS : S.length ≤ 7) (kk : Nat) (hkk : kind = (kk : Int)) (h1 : 1 ≤ kk) (h2 : kk ≤ 18) (hSB : S = strK.getD kk [])
    (hV : S.any (· == ltr.getD 8 0) = V) (hC : mcheckM (mK kind 8) = if V = true then 0 else 1) :
    Calls Tryd.prog 6 #[.int .i64 kind, .int .u8 wh] w fun e w' => e = .returned (.bool true) ∧ Below w.heap.size w w' := by
  have HT := Go.Lib.hid hT
  have HV := Go.Lib.hid hV
  have ck := fun W hT av cv ab cb => mcheck_any W hT (mK kind 8) av cv ab cb
  rw [hC] at ck
  subst hkk
  have hSl : S.length ≤ 7 := hS
  have sa := strV_at kk (by omega)
  rw [← hSB] at sa
  have SA := Go.Lib.hid sa
  clear sa hSB
  have hk1 : (1 : Int) ≤ (kk : Int) := by omega
  have hk2 : (kk : Int) ≤ 18 := by omega
  have CK := Go.Lib.hid ck
  clear hT hV ck hC
  unfold msgV mK mm0 at CK
  simp only [List.toArray, List.length_nil, List.length_cons] at CK
  go_enter Tryd.func6, Tryd.ntmps6
  go_wp2_with fail
  refine (mawake_any _ HT.out).mono ?_
  rintro e w1 ⟨rfl, hb1⟩
  have hT1 := HT.out.grow hb1
  have B2 : Below w.heap.size w (w1.alloc (.cells #[(.int .i64 (kk : Int)), (.int .u64 0), (.int .u64 0), (.int .i64 0), (.int .i64 0), (.int .u64 0), (.int .u64 0), (.int .u64 0), (.int .i64 0), (.slice none 0 0), (.slice none 0 0)] 32)) := NB.bel hb1 (oneB w1 _) hb1.size
  have B3 : Below w.heap.size w ((w1.alloc (.cells #[(.int .i64 (kk : Int)), (.int .u64 0), (.int .u64 0), (.int .i64 0), (.int .i64 0), (.int .u64 0), (.int .u64 0), (.int .u64 0), (.int .i64 0), (.slice none 0 0), (.slice none 0 0)] 32)).alloc (.cells #[.string (ByteArray.mk #[]), .string (ByteArray.mk #[104, 103, 99, 113, 120]), .string (ByteArray.mk #[104, 103, 99, 113, 112, 100]), .string (ByteArray.mk #[104, 103, 99, 113, 112, 120]), .string (ByteArray.mk #[104, 103, 112]), .string (ByteArray.mk #[104, 103, 112]), .string (ByteArray.mk #[104, 103, 118]), .string (ByteArray.mk #[98, 115]), .string (ByteArray.mk #[98, 115, 120]), .string (ByteArray.mk #[98, 115, 120]), .string (ByteArray.mk #[98, 115]), .string (ByteArray.mk #[98]), .string (ByteArray.mk #[115, 120]), .string (ByteArray.mk #[115]), .string (ByteArray.mk #[99, 113, 112]), .string (ByteArray.mk #[104, 103, 99, 113, 112, 100, 120]), .string (ByteArray.mk #[104, 103, 99, 113, 112, 100]), .string (ByteArray.mk #[99, 113, 112, 100]), .string (ByteArray.mk #[98, 115])] 9)) := NB.bel B2 (oneB (w1.alloc (.cells #[(.int .i64 (kk : Int)), (.int .u64 0), (.int .u64 0), (.int .i64 0), (.int .i64 0), (.int .u64 0), (.int .u64 0), (.int .u64 0), (.int .i64 0), (.slice none 0 0), (.slice none 0 0)] 32)) _) B2.size
  have R3 : Rw ((w1.alloc (.cells #[(.int .i64 (kk : Int)), (.int .u64 0), (.int .u64 0), (.int .i64 0), (.int .i64 0), (.int .u64 0), (.int .u64 0), (.int .u64 0), (.int .i64 0), (.slice none 0 0), (.slice none 0 0)] 32)).alloc (.cells #[.string (ByteArray.mk #[]), .string (ByteArray.mk #[104, 103, 99, 113, 120]), .string (ByteArray.mk #[104, 103, 99, 113, 112, 100]), .string (ByteArray.mk #[104, 103, 99, 113, 112, 120]), .string (ByteArray.mk #[104, 103, 112]), .string (ByteArray.mk #[104, 103, 112]), .string (ByteArray.mk #[104, 103, 118]), .string (ByteArray.mk #[98, 115]), .string (ByteArray.mk #[98, 115, 120]), .string (ByteArray.mk #[98, 115, 120]), .string (ByteArray.mk #[98, 115]), .string (ByteArray.mk #[98]), .string (ByteArray.mk #[115, 120]), .string (ByteArray.mk #[115]), .string (ByteArray.mk #[99, 113, 112]), .string (ByteArray.mk #[104, 103, 99, 113, 112, 100, 120]), .string (ByteArray.mk #[104, 103, 99, 113, 112, 100]), .string (ByteArray.mk #[99, 113, 112, 100]), .string (ByteArray.mk #[98, 115])] 9)) w1.heap.size [(.int .i64 (kk : Int)), (.int .u64 0), (.int .u64 0), (.int .i64 0), (.int .i64 0), (.int .u64 0), (.int .u64 0), (.int .u64 0), (.int .i64 0), (.slice none 0 0), (.slice none 0 0)] 32 := (NB.rw_new w1 _ 32 rfl).below (oneB (w1.alloc (.cells #[(.int .i64 (kk : Int)), (.int .u64 0), (.int .u64 0), (.int .i64 0), (.int .i64 0), (.int .u64 0), (.int .u64 0), (.int .u64 0), (.int .i64 0), (.slice none 0 0), (.slice none 0 0)] 32)) _)
  have z2 : (w1.alloc (.cells #[(.int .i64 (kk : Int)), (.int .u64 0), (.int .u64 0), (.int .i64 0), (.int .i64 0), (.int .u64 0), (.int .u64 0), (.int .u64 0), (.int .i64 0), (.slice none 0 0), (.slice none 0 0)] 32)).heap.size = w1.heap.size + 1 := by simp
  have q0 : ((w1.alloc (.cells #[(.int .i64 (kk : Int)), (.int .u64 0), (.int .u64 0), (.int .i64 0), (.int .i64 0), (.int .u64 0), (.int .u64 0), (.int .u64 0), (.int .i64 0), (.slice none 0 0), (.slice none 0 0)] 32)).alloc (.cells #[.string (ByteArray.mk #[]), .string (ByteArray.mk #[104, 103, 99, 113, 120]), .string (ByteArray.mk #[104, 103, 99, 113, 112, 100]), .string (ByteArray.mk #[104, 103, 99, 113, 112, 120]), .string (ByteArray.mk #[104, 103, 112]), .string (ByteArray.mk #[104, 103, 112]), .string (ByteArray.mk #[104, 103, 118]), .string (ByteArray.mk #[98, 115]), .string (ByteArray.mk #[98, 115, 120]), .string (ByteArray.mk #[98, 115, 120]), .string (ByteArray.mk #[98, 115]), .string (ByteArray.mk #[98]), .string (ByteArray.mk #[115, 120]), .string (ByteArray.mk #[115]), .string (ByteArray.mk #[99, 113, 112]), .string (ByteArray.mk #[104, 103, 99, 113, 112, 100, 120]), .string (ByteArray.mk #[104, 103, 99, 113, 112, 100]), .string (ByteArray.mk #[99, 113, 112, 100]), .string (ByteArray.mk #[98, 115])] 9)).cell? ⟨w1.heap.size + 1, kk, none⟩ = some (.string (ByteArray.mk S.toArray)) := by
    have r : Rw ((w1.alloc (.cells #[(.int .i64 (kk : Int)), (.int .u64 0), (.int .u64 0), (.int .i64 0), (.int .i64 0), (.int .u64 0), (.int .u64 0), (.int .u64 0), (.int .i64 0), (.slice none 0 0), (.slice none 0 0)] 32)).alloc (.cells #[.string (ByteArray.mk #[]), .string (ByteArray.mk #[104, 103, 99, 113, 120]), .string (ByteArray.mk #[104, 103, 99, 113, 112, 100]), .string (ByteArray.mk #[104, 103, 99, 113, 112, 120]), .string (ByteArray.mk #[104, 103, 112]), .string (ByteArray.mk #[104, 103, 112]), .string (ByteArray.mk #[104, 103, 118]), .string (ByteArray.mk #[98, 115]), .string (ByteArray.mk #[98, 115, 120]), .string (ByteArray.mk #[98, 115, 120]), .string (ByteArray.mk #[98, 115]), .string (ByteArray.mk #[98]), .string (ByteArray.mk #[115, 120]), .string (ByteArray.mk #[115]), .string (ByteArray.mk #[99, 113, 112]), .string (ByteArray.mk #[104, 103, 99, 113, 112, 100, 120]), .string (ByteArray.mk #[104, 103, 99, 113, 112, 100]), .string (ByteArray.mk #[99, 113, 112, 100]), .string (ByteArray.mk #[98, 115])] 9)) (w1.alloc (.cells #[(.int .i64 (kk : Int)), (.int .u64 0), (.int .u64 0), (.int .i64 0), (.int .i64 0), (.int .u64 0), (.int .u64 0), (.int .u64 0), (.int .i64 0), (.slice none 0 0), (.slice none 0 0)] 32)).heap.size strV 9 := NB.rw_new (w1.alloc (.cells #[(.int .i64 (kk : Int)), (.int .u64 0), (.int .u64 0), (.int .i64 0), (.int .i64 0), (.int .u64 0), (.int .u64 0), (.int .u64 0), (.int .i64 0), (.slice none 0 0), (.slice none 0 0)] 32)) strV 9 rfl
    rw [z2] at r
    exact r.cell kk _ SA.out
  have B4 : Below w.heap.size w (((w1.alloc (.cells #[(.int .i64 (kk : Int)), (.int .u64 0), (.int .u64 0), (.int .i64 0), (.int .i64 0), (.int .u64 0), (.int .u64 0), (.int .u64 0), (.int .i64 0), (.slice none 0 0), (.slice none 0 0)] 32)).alloc (.cells #[.string (ByteArray.mk #[]), .string (ByteArray.mk #[104, 103, 99, 113, 120]), .string (ByteArray.mk #[104, 103, 99, 113, 112, 100]), .string (ByteArray.mk #[104, 103, 99, 113, 112, 120]), .string (ByteArray.mk #[104, 103, 112]), .string (ByteArray.mk #[104, 103, 112]), .string (ByteArray.mk #[104, 103, 118]), .string (ByteArray.mk #[98, 115]), .string (ByteArray.mk #[98, 115, 120]), .string (ByteArray.mk #[98, 115, 120]), .string (ByteArray.mk #[98, 115]), .string (ByteArray.mk #[98]), .string (ByteArray.mk #[115, 120]), .string (ByteArray.mk #[115]), .string (ByteArray.mk #[99, 113, 112]), .string (ByteArray.mk #[104, 103, 99, 113, 112, 100, 120]), .string (ByteArray.mk #[104, 103, 99, 113, 112, 100]), .string (ByteArray.mk #[99, 113, 112, 100]), .string (ByteArray.mk #[98, 115])] 9)).alloc (.cells #[.int .u64 0] 29)) := NB.bel B3 (oneB ((w1.alloc (.cells #[(.int .i64 (kk : Int)), (.int .u64 0), (.int .u64 0), (.int .i64 0), (.int .i64 0), (.int .u64 0), (.int .u64 0), (.int .u64 0), (.int .i64 0), (.slice none 0 0), (.slice none 0 0)] 32)).alloc (.cells #[.string (ByteArray.mk #[]), .string (ByteArray.mk #[104, 103, 99, 113, 120]), .string (ByteArray.mk #[104, 103, 99, 113, 112, 100]), .string (ByteArray.mk #[104, 103, 99, 113, 112, 120]), .string (ByteArray.mk #[104, 103, 112]), .string (ByteArray.mk #[104, 103, 112]), .string (ByteArray.mk #[104, 103, 118]), .string (ByteArray.mk #[98, 115]), .string (ByteArray.mk #[98, 115, 120]), .string (ByteArray.mk #[98, 115, 120]), .string (ByteArray.mk #[98, 115]), .string (ByteArray.mk #[98]), .string (ByteArray.mk #[115, 120]), .string (ByteArray.mk #[115]), .string (ByteArray.mk #[99, 113, 112]), .string (ByteArray.mk #[104, 103, 99, 113, 112, 100, 120]), .string (ByteArray.mk #[104, 103, 99, 113, 112, 100]), .string (ByteArray.mk #[99, 113, 112, 100]), .string (ByteArray.mk #[98, 115])] 9)) _) B3.size
  have R4 : Rw (((w1.alloc (.cells #[(.int .i64 (kk : Int)), (.int .u64 0), (.int .u64 0), (.int .i64 0), (.int .i64 0), (.int .u64 0), (.int .u64 0), (.int .u64 0), (.int .i64 0), (.slice none 0 0), (.slice none 0 0)] 32)).alloc (.cells #[.string (ByteArray.mk #[]), .string (ByteArray.mk #[104, 103, 99, 113, 120]), .string (ByteArray.mk #[104, 103, 99, 113, 112, 100]), .string (ByteArray.mk #[104, 103, 99, 113, 112, 120]), .string (ByteArray.mk #[104, 103, 112]), .string (ByteArray.mk #[104, 103, 112]), .string (ByteArray.mk #[104, 103, 118]), .string (ByteArray.mk #[98, 115]), .string (ByteArray.mk #[98, 115, 120]), .string (ByteArray.mk #[98, 115, 120]), .string (ByteArray.mk #[98, 115]), .string (ByteArray.mk #[98]), .string (ByteArray.mk #[115, 120]), .string (ByteArray.mk #[115]), .string (ByteArray.mk #[99, 113, 112]), .string (ByteArray.mk #[104, 103, 99, 113, 112, 100, 120]), .string (ByteArray.mk #[104, 103, 99, 113, 112, 100]), .string (ByteArray.mk #[99, 113, 112, 100]), .string (ByteArray.mk #[98, 115])] 9)).alloc (.cells #[.int .u64 0] 29)) w1.heap.size [(.int .i64 (kk : Int)), (.int .u64 0), (.int .u64 0), (.int .i64 0), (.int .i64 0), (.int .u64 0), (.int .u64 0), (.int .u64 0), (.int .i64 0), (.slice none 0 0), (.slice none 0 0)] 32 := R3.below (oneB ((w1.alloc (.cells #[(.int .i64 (kk : Int)), (.int .u64 0), (.int .u64 0), (.int .i64 0), (.int .i64 0), (.int .u64 0), (.int .u64 0), (.int .u64 0), (.int .i64 0), (.slice none 0 0), (.slice none 0 0)] 32)).alloc (.cells #[.string (ByteArray.mk #[]), .string (ByteArray.mk #[104, 103, 99, 113, 120]), .string (ByteArray.mk #[104, 103, 99, 113, 112, 100]), .string (ByteArray.mk #[104, 103, 99, 113, 112, 120]), .string (ByteArray.mk #[104, 103, 112]), .string (ByteArray.mk #[104, 103, 112]), .string (ByteArray.mk #[104, 103, 118]), .string (ByteArray.mk #[98, 115]), .string (ByteArray.mk #[98, 115, 120]), .string (ByteArray.mk #[98, 115, 120]), .string (ByteArray.mk #[98, 115]), .string (ByteArray.mk #[98]), .string (ByteArray.mk #[115, 120]), .string (ByteArray.mk #[115]), .string (ByteArray.mk #[99, 113, 112]), .string (ByteArray.mk #[104, 103, 99, 113, 112, 100, 120]), .string (ByteArray.mk #[104, 103, 99, 113, 112, 100]), .string (ByteArray.mk #[99, 113, 112, 100]), .string (ByteArray.mk #[98, 115])] 9)) _)
  have z4 : ((w1.alloc (.cells #[(.int .i64 (kk : Int)), (.int .u64 0), (.int .u64 0), (.int .i64 0), (.int .i64 0), (.int .u64 0), (.int .u64 0), (.int .u64 0), (.int .i64 0), (.slice none 0 0), (.slice none 0 0)] 32)).alloc (.cells #[.string (ByteArray.mk #[]), .string (ByteArray.mk #[104, 103, 99, 113, 120]), .string (ByteArray.mk #[104, 103, 99, 113, 112, 100]), .string (ByteArray.mk #[104, 103, 99, 113, 112, 120]), .string (ByteArray.mk #[104, 103, 112]), .string (ByteArray.mk #[104, 103, 112]), .string (ByteArray.mk #[104, 103, 118]), .string (ByteArray.mk #[98, 115]), .string (ByteArray.mk #[98, 115, 120]), .string (ByteArray.mk #[98, 115, 120]), .string (ByteArray.mk #[98, 115]), .string (ByteArray.mk #[98]), .string (ByteArray.mk #[115, 120]), .string (ByteArray.mk #[115]), .string (ByteArray.mk #[99, 113, 112]), .string (ByteArray.mk #[104, 103, 99, 113, 112, 100, 120]), .string (ByteArray.mk #[104, 103, 99, 113, 112, 100]), .string (ByteArray.mk #[99, 113, 112, 100]), .string (ByteArray.mk #[98, 115])] 9)).heap.size = w1.heap.size + 2 := by simp
  have c9 := R4.cell 9 _ rfl
  have f9 := R4.free 9
  have B5 : Below w.heap.size w (((w1.alloc (.cells #[(.int .i64 (kk : Int)), (.int .u64 0), (.int .u64 0), (.int .i64 0), (.int .i64 0), (.int .u64 0), (.int .u64 0), (.int .u64 0), (.int .i64 0), (.slice (some ⟨w1.heap.size + 2, 0, none⟩) 1 1), (.slice none 0 0)] 32)).alloc (.cells #[.string (ByteArray.mk #[]), .string (ByteArray.mk #[104, 103, 99, 113, 120]), .string (ByteArray.mk #[104, 103, 99, 113, 112, 100]), .string (ByteArray.mk #[104, 103, 99, 113, 112, 120]), .string (ByteArray.mk #[104, 103, 112]), .string (ByteArray.mk #[104, 103, 112]), .string (ByteArray.mk #[104, 103, 118]), .string (ByteArray.mk #[98, 115]), .string (ByteArray.mk #[98, 115, 120]), .string (ByteArray.mk #[98, 115, 120]), .string (ByteArray.mk #[98, 115]), .string (ByteArray.mk #[98]), .string (ByteArray.mk #[115, 120]), .string (ByteArray.mk #[115]), .string (ByteArray.mk #[99, 113, 112]), .string (ByteArray.mk #[104, 103, 99, 113, 112, 100, 120]), .string (ByteArray.mk #[104, 103, 99, 113, 112, 100]), .string (ByteArray.mk #[99, 113, 112, 100]), .string (ByteArray.mk #[98, 115])] 9)).alloc (.cells #[.int .u64 0] 29)) := NB.bel (NB.bel (NB.bel hb1 (oneB w1 _) hb1.size) (oneB (w1.alloc (.cells #[(.int .i64 (kk : Int)), (.int .u64 0), (.int .u64 0), (.int .i64 0), (.int .i64 0), (.int .u64 0), (.int .u64 0), (.int .u64 0), (.int .i64 0), (.slice (some ⟨w1.heap.size + 2, 0, none⟩) 1 1), (.slice none 0 0)] 32)) _) (NB.bel hb1 (oneB w1 _) hb1.size).size) (oneB ((w1.alloc (.cells #[(.int .i64 (kk : Int)), (.int .u64 0), (.int .u64 0), (.int .i64 0), (.int .i64 0), (.int .u64 0), (.int .u64 0), (.int .u64 0), (.int .i64 0), (.slice (some ⟨w1.heap.size + 2, 0, none⟩) 1 1), (.slice none 0 0)] 32)).alloc (.cells #[.string (ByteArray.mk #[]), .string (ByteArray.mk #[104, 103, 99, 113, 120]), .string (ByteArray.mk #[104, 103, 99, 113, 112, 100]), .string (ByteArray.mk #[104, 103, 99, 113, 112, 120]), .string (ByteArray.mk #[104, 103, 112]), .string (ByteArray.mk #[104, 103, 112]), .string (ByteArray.mk #[104, 103, 118]), .string (ByteArray.mk #[98, 115]), .string (ByteArray.mk #[98, 115, 120]), .string (ByteArray.mk #[98, 115, 120]), .string (ByteArray.mk #[98, 115]), .string (ByteArray.mk #[98]), .string (ByteArray.mk #[115, 120]), .string (ByteArray.mk #[115]), .string (ByteArray.mk #[99, 113, 112]), .string (ByteArray.mk #[104, 103, 99, 113, 112, 100, 120]), .string (ByteArray.mk #[104, 103, 99, 113, 112, 100]), .string (ByteArray.mk #[99, 113, 112, 100]), .string (ByteArray.mk #[98, 115])] 9)) _) (NB.bel (NB.bel hb1 (oneB w1 _) hb1.size) (oneB (w1.alloc (.cells #[(.int .i64 (kk : Int)), (.int .u64 0), (.int .u64 0), (.int .i64 0), (.int .i64 0), (.int .u64 0), (.int .u64 0), (.int .u64 0), (.int .i64 0), (.slice (some ⟨w1.heap.size + 2, 0, none⟩) 1 1), (.slice none 0 0)] 32)) _) (NB.bel hb1 (oneB w1 _) hb1.size).size).size
  have R5 : Rw (((w1.alloc (.cells #[(.int .i64 (kk : Int)), (.int .u64 0), (.int .u64 0), (.int .i64 0), (.int .i64 0), (.int .u64 0), (.int .u64 0), (.int .u64 0), (.int .i64 0), (.slice (some ⟨w1.heap.size + 2, 0, none⟩) 1 1), (.slice none 0 0)] 32)).alloc (.cells #[.string (ByteArray.mk #[]), .string (ByteArray.mk #[104, 103, 99, 113, 120]), .string (ByteArray.mk #[104, 103, 99, 113, 112, 100]), .string (ByteArray.mk #[104, 103, 99, 113, 112, 120]), .string (ByteArray.mk #[104, 103, 112]), .string (ByteArray.mk #[104, 103, 112]), .string (ByteArray.mk #[104, 103, 118]), .string (ByteArray.mk #[98, 115]), .string (ByteArray.mk #[98, 115, 120]), .string (ByteArray.mk #[98, 115, 120]), .string (ByteArray.mk #[98, 115]), .string (ByteArray.mk #[98]), .string (ByteArray.mk #[115, 120]), .string (ByteArray.mk #[115]), .string (ByteArray.mk #[99, 113, 112]), .string (ByteArray.mk #[104, 103, 99, 113, 112, 100, 120]), .string (ByteArray.mk #[104, 103, 99, 113, 112, 100]), .string (ByteArray.mk #[99, 113, 112, 100]), .string (ByteArray.mk #[98, 115])] 9)).alloc (.cells #[.int .u64 0] 29)) w1.heap.size [(.int .i64 (kk : Int)), (.int .u64 0), (.int .u64 0), (.int .i64 0), (.int .i64 0), (.int .u64 0), (.int .u64 0), (.int .u64 0), (.int .i64 0), (.slice (some ⟨w1.heap.size + 2, 0, none⟩) 1 1), (.slice none 0 0)] 32 := ((NB.rw_new w1 _ 32 rfl).below (oneB (w1.alloc (.cells #[(.int .i64 (kk : Int)), (.int .u64 0), (.int .u64 0), (.int .i64 0), (.int .i64 0), (.int .u64 0), (.int .u64 0), (.int .u64 0), (.int .i64 0), (.slice (some ⟨w1.heap.size + 2, 0, none⟩) 1 1), (.slice none 0 0)] 32)) _)).below (oneB ((w1.alloc (.cells #[(.int .i64 (kk : Int)), (.int .u64 0), (.int .u64 0), (.int .i64 0), (.int .i64 0), (.int .u64 0), (.int .u64 0), (.int .u64 0), (.int .i64 0), (.slice (some ⟨w1.heap.size + 2, 0, none⟩) 1 1), (.slice none 0 0)] 32)).alloc (.cells #[.string (ByteArray.mk #[]), .string (ByteArray.mk #[104, 103, 99, 113, 120]), .string (ByteArray.mk #[104, 103, 99, 113, 112, 100]), .string (ByteArray.mk #[104, 103, 99, 113, 112, 120]), .string (ByteArray.mk #[104, 103, 112]), .string (ByteArray.mk #[104, 103, 112]), .string (ByteArray.mk #[104, 103, 118]), .string (ByteArray.mk #[98, 115]), .string (ByteArray.mk #[98, 115, 120]), .string (ByteArray.mk #[98, 115, 120]), .string (ByteArray.mk #[98, 115]), .string (ByteArray.mk #[98]), .string (ByteArray.mk #[115, 120]), .string (ByteArray.mk #[115]), .string (ByteArray.mk #[99, 113, 112]), .string (ByteArray.mk #[104, 103, 99, 113, 112, 100, 120]), .string (ByteArray.mk #[104, 103, 99, 113, 112, 100]), .string (ByteArray.mk #[99, 113, 112, 100]), .string (ByteArray.mk #[98, 115])] 9)) _)
  have hT5 := HT.out.grow B5
  have l5 := R5.lt
  clear R3 B2 B3 R4 B4 hb1 hT1
  go_wp2_with fail
  go_loopw [10, 11] (fun x y wr => ∃ i : Nat, i ≤ S.length ∧ x = .bool ((S.take i).any (· == 118)) ∧ y = .int .i64 (i : Int) ∧ Below w.heap.size w wr ∧ Rw wr w1.heap.size [(.int .i64 (kk : Int)), (.int .u64 0), (.int .u64 0), (.int .i64 0), (.int .i64 0), (.int .u64 0), (.int .u64 0), (.int .u64 0), (.int .i64 0), (.slice (some ⟨w1.heap.size + 2, 0, none⟩) 1 1), (.slice none 0 0)] 32) (fun _ y _ => S.length - (intOf y).toNat)
  case atStart => exact ⟨0, by omega, rfl, rfl, B5, R5⟩
  case round =>
    obtain ⟨i, hi, rfl, rfl, BR, RR⟩ := hrel
    clear B5 R5 hT5 hm
    by_cases hlt : i < S.length
    case neg =>
      have hli : ¬ (i : Int) < (S.length : Int) := by omega
      rw [List.take_of_length_le (by omega)]
      have hv : S.any (· == 118) = V := HV.out
      rw [hv]
      clear hv
      have e0 := RR.cell 0 _ rfl
      have e1 := RR.cell 1 _ rfl
      have e2 := RR.cell 2 _ rfl
      have e3 := RR.cell 3 _ rfl
      have e4 := RR.cell 4 _ rfl
      have e5 := RR.cell 5 _ rfl
      have e6 := RR.cell 6 _ rfl
      have e7 := RR.cell 7 _ rfl
      have e8 := RR.cell 8 _ rfl
      have e9 := RR.cell 9 _ rfl
      have e10 := RR.cell 10 _ rfl
      cases V
      all_goals (
        simp only [Bool.false_eq_true, if_true, if_false, reduceIte] at CK
        go_wp2_with fail
        refine (CK.out _ (HT.out.grow BR) (some ⟨w1.heap.size + 2, 0, none⟩) 1 none 0).mono ?_
        rintro e w9 ⟨rfl, hb9⟩
        have B9 := NB.bel BR hb9 BR.size
        go_wp2_with fail
        go_ret
        exact ⟨rfl, B9⟩)
    have hli : (i : Int) < (S.length : Int) := by omega
    have htk : S.take (i + 1) = S.take i ++ [S[i]] := by rw [List.take_add_one, List.getElem?_eq_getElem hlt]; rfl
    have hix : S.toArray[i]? = some S[i] := by simp [hlt]
    obtain ⟨v, hv⟩ : ∃ v, (S.take i).any (· == 118) = v := ⟨_, rfl⟩
    rw [hv]
    have HN : (S.take (i + 1)).any (· == 118) = (v || S[i] == 118) := by rw [htk, List.any_append, hv]; simp
    have HN := Go.Lib.hid HN
    clear htk hv
    cases v
    · go_wp2_with fail
      refine NB.wp_region_t [] (by kernel_rfl) ?_
      refine NB.t_p 0 rfl (by kernel_rfl) (fun K hK => ?_); go_simp; refine hK _ ?_; clear hK K
      refine NB.t_p 1 rfl (by kernel_rfl) (fun K hK => ?_); go_simp; refine hK _ ?_; clear hK K
      refine NB.t_p 2 rfl (by kernel_rfl) (fun K hK => ?_); go_simp; refine hK _ ?_; clear hK K
      refine NB.t_p 3 rfl (by kernel_rfl) (fun K hK => ?_); go_simp; refine hK _ ?_; clear hK K
      refine NB.t_p 4 rfl (by kernel_rfl) (fun K hK => ?_); go_simp; refine hK _ ?_; clear hK K
      refine NB.t_p 5 rfl (by kernel_rfl) (fun K hK => ?_); go_simp; refine hK _ ?_; clear hK K
      refine NB.t_p 6 rfl (by kernel_rfl) (fun K hK => ?_); go_simp; refine hK _ ?_; clear hK K
      refine NB.t_p 7 rfl (by kernel_rfl) (fun K hK => ?_); go_simp; refine hK _ ?_; clear hK K
      refine NB.t_p 8 rfl (by kernel_rfl) (fun K hK => ?_); go_simp; refine hK _ ?_; clear hK K
      refine NB.t_p 9 rfl (by kernel_rfl) (fun K hK => ?_); go_simp; refine hK _ ?_; clear hK K
      refine NB.t_end (by kernel_rfl) ?_
      go_wp2_with fail
      go_round
      case rel => exact ⟨i + 1, by omega, by rw [HN.out, Bool.false_or]; exact congrArg Value.bool (byte_eq S[i] 118), by go_num, BR.trans (dB _ |>.mono BR.size), RR.below (dB _)⟩
      case measure => simp [intOf]; omega
    · go_wp2_with fail
      refine NB.wp_region_t [] (by kernel_rfl) ?_
      refine NB.t_p 0 rfl (by kernel_rfl) (fun K hK => ?_); go_simp; refine hK _ ?_; clear hK K
      refine NB.t_p 1 rfl (by kernel_rfl) (fun K hK => ?_); go_simp; refine hK _ ?_; clear hK K
      refine NB.t_p 2 rfl (by kernel_rfl) (fun K hK => ?_); go_simp; refine hK _ ?_; clear hK K
      refine NB.t_p 3 rfl (by kernel_rfl) (fun K hK => ?_); go_simp; refine hK _ ?_; clear hK K
      refine NB.t_p 4 rfl (by kernel_rfl) (fun K hK => ?_); go_simp; refine hK _ ?_; clear hK K
      refine NB.t_p 5 rfl (by kernel_rfl) (fun K hK => ?_); go_simp; refine hK _ ?_; clear hK K
      refine NB.t_p 6 rfl (by kernel_rfl) (fun K hK => ?_); go_simp; refine hK _ ?_; clear hK K
      refine NB.t_p 7 rfl (by kernel_rfl) (fun K hK => ?_); go_simp; refine hK _ ?_; clear hK K
      refine NB.t_p 8 rfl (by kernel_rfl) (fun K hK => ?_); go_simp; refine hK _ ?_; clear hK K
      refine NB.t_p 9 rfl (by kernel_rfl) (fun K hK => ?_); go_simp; refine hK _ ?_; clear hK K
      refine NB.t_end (by kernel_rfl) ?_
      go_wp2_with fail
      go_round
      case rel => exact ⟨i + 1, by omega, by rw [HN.out]; rfl, by go_num, BR.trans (dB _ |>.mono BR.size), RR.below (dB _)⟩
      case measure => simp [intOf]; omega

set_option maxRecDepth 100000 in
set_option maxHeartbeats 4000000 in
theorem kinds_B9 (w : World) (hT : Tb w) (kind wh : Int) (hw0 : 0 ≤ wh) (hw1 : wh < 256) (hm : wh % 10 = 9) (V : Bool) (S : List UInt8) (hS : S.length ≤ 7) (kk : Nat) (hkk : kind = (kk : Int)) (h1 : 1 ≤ kk) (h2 : kk ≤ 18) (hSB : S = strK.getD kk [])
    (hV : S.any (· == ltr.getD 9 0) = V) (hC : mcheckM (mK kind 9) = if V = true then 0 else 1) :
    Calls Tryd.prog 6 #[.int .i64 kind, .int .u8 wh] w fun e w' => e = .returned (.bool true) ∧ Below w.heap.size w w' := by
  have HT := Go.Lib.hid hT
  have HV := Go.Lib.hid hV
  have ck := fun W hT av cv ab cb => mcheck_any W hT (mK kind 9) av cv ab cb
  rw [hC] at ck
  subst hkk
  have hSl : S.length ≤ 7 := hS
  have sa := strV_at kk (by omega)
  rw [← hSB] at sa
  have SA := Go.Lib.hid sa
  clear sa hSB
  have hk1 : (1 : Int) ≤ (kk : Int) := by omega
  have hk2 : (kk : Int) ≤ 18 := by omega
  have CK := Go.Lib.hid ck
  clear hT hV ck hC
  unfold msgV mK mm0 at CK
  simp only [List.toArray, List.length_nil, List.length_cons] at CK
  go_enter Tryd.func6, Tryd.ntmps6
  go_wp2_with fail
  refine (mawake_any _ HT.out).mono ?_
  rintro e w1 ⟨rfl, hb1⟩
  have hT1 := HT.out.grow hb1
  have B2 : Below w.heap.size w (w1.alloc (.cells #[(.int .i64 (kk : Int)), (.int .u64 0), (.int .u64 0), (.int .i64 0), (.int .i64 0), (.int .u64 0), (.int .u64 0), (.int .u64 0), (.int .i64 0), (.slice none 0 0), (.slice none 0 0)] 32)) := NB.bel hb1 (oneB w1 _) hb1.size
  have B3 : Below w.heap.size w ((w1.alloc (.cells #[(.int .i64 (kk : Int)), (.int .u64 0), (.int .u64 0), (.int .i64 0), (.int .i64 0), (.int .u64 0), (.int .u64 0), (.int .u64 0), (.int .i64 0), (.slice none 0 0), (.slice none 0 0)] 32)).alloc (.cells #[.string (ByteArray.mk #[]), .string (ByteArray.mk #[104, 103, 99, 113, 120]), .string (ByteArray.mk #[104, 103, 99, 113, 112, 100]), .string (ByteArray.mk #[104, 103, 99, 113, 112, 120]), .string (ByteArray.mk #[104, 103, 112]), .string (ByteArray.mk #[104, 103, 112]), .string (ByteArray.mk #[104, 103, 118]), .string (ByteArray.mk #[98, 115]), .string (ByteArray.mk #[98, 115, 120]), .string (ByteArray.mk #[98, 115, 120]), .string (ByteArray.mk #[98, 115]), .string (ByteArray.mk #[98]), .string (ByteArray.mk #[115, 120]), .string (ByteArray.mk #[115]), .string (ByteArray.mk #[99, 113, 112]), .string (ByteArray.mk #[104, 103, 99, 113, 112, 100, 120]), .string (ByteArray.mk #[104, 103, 99, 113, 112, 100]), .string (ByteArray.mk #[99, 113, 112, 100]), .string (ByteArray.mk #[98, 115])] 9)) := NB.bel B2 (oneB (w1.alloc (.cells #[(.int .i64 (kk : Int)), (.int .u64 0), (.int .u64 0), (.int .i64 0), (.int .i64 0), (.int .u64 0), (.int .u64 0), (.int .u64 0), (.int .i64 0), (.slice none 0 0), (.slice none 0 0)] 32)) _) B2.size
  have R3 : Rw ((w1.alloc (.cells #[(.int .i64 (kk : Int)), (.int .u64 0), (.int .u64 0), (.int .i64 0), (.int .i64 0), (.int .u64 0), (.int .u64 0), (.int .u64 0), (.int .i64 0), (.slice none 0 0), (.slice none 0 0)] 32)).alloc (.cells #[.string (ByteArray.mk #[]), .string (ByteArray.mk #[104, 103, 99, 113, 120]), .string (ByteArray.mk #[104, 103, 99, 113, 112, 100]), .string (ByteArray.mk #[104, 103, 99, 113, 112, 120]), .string (ByteArray.mk #[104, 103, 112]), .string (ByteArray.mk #[104, 103, 112]), .string (ByteArray.mk #[104, 103, 118]), .string (ByteArray.mk #[98, 115]), .string (ByteArray.mk #[98, 115, 120]), .string (ByteArray.mk #[98, 115, 120]), .string (ByteArray.mk #[98, 115]), .string (ByteArray.mk #[98]), .string (ByteArray.mk #[115, 120]), .string (ByteArray.mk #[115]), .string (ByteArray.mk #[99, 113, 112]), .string (ByteArray.mk #[104, 103, 99, 113, 112, 100, 120]), .string (ByteArray.mk #[104, 103, 99, 113, 112, 100]), .string (ByteArray.mk #[99, 113, 112, 100]), .string (ByteArray.mk #[98, 115])] 9)) w1.heap.size [(.int .i64 (kk : Int)), (.int .u64 0), (.int .u64 0), (.int .i64 0), (.int .i64 0), (.int .u64 0), (.int .u64 0), (.int .u64 0), (.int .i64 0), (.slice none 0 0), (.slice none 0 0)] 32 := (NB.rw_new w1 _ 32 rfl).below (oneB (w1.alloc (.cells #[(.int .i64 (kk : Int)), (.int .u64 0), (.int .u64 0), (.int .i64 0), (.int .i64 0), (.int .u64 0), (.int .u64 0), (.int .u64 0), (.int .i64 0), (.slice none 0 0), (.slice none 0 0)] 32)) _)
  have z2 : (w1.alloc (.cells #[(.int .i64 (kk : Int)), (.int .u64 0), (.int .u64 0), (.int .i64 0), (.int .i64 0), (.int .u64 0), (.int .u64 0), (.int .u64 0), (.int .i64 0), (.slice none 0 0), (.slice none 0 0)] 32)).heap.size = w1.heap.size + 1 := by simp
  have q0 : ((w1.alloc (.cells #[(.int .i64 (kk : Int)), (.int .u64 0), (.int .u64 0), (.int .i64 0), (.int .i64 0), (.int .u64 0), (.int .u64 0), (.int .u64 0), (.int .i64 0), (.slice none 0 0), (.slice none 0 0)] 32)).alloc (.cells #[.string (ByteArray.mk #[]), .string (ByteArray.mk #[104, 103, 99, 113, 120]), .string (ByteArray.mk #[104, 103, 99, 113, 112, 100]), .string (ByteArray.mk #[104, 103, 99, 113, 112, 120]), .string (ByteArray.mk #[104, 103, 112]), .string (ByteArray.mk #[104, 103, 112]), .string (ByteArray.mk #[104, 103, 118]), .string (ByteArray.mk #[98, 115]), .string (ByteArray.mk #[98, 115, 120]), .string (ByteArray.mk #[98, 115, 120]), .string (ByteArray.mk #[98, 115]), .string (ByteArray.mk #[98]), .string (ByteArray.mk #[115, 120]), .string (ByteArray.mk #[115]), .string (ByteArray.mk #[99, 113, 112]), .string (ByteArray.mk #[104, 103, 99, 113, 112, 100, 120]), .string (ByteArray.mk #[104, 103, 99, 113, 112, 100]), .string (ByteArray.mk #[99, 113, 112, 100]), .string (ByteArray.mk #[98, 115])] 9)).cell? ⟨w1.heap.size + 1, kk, none⟩ = some (.string (ByteArray.mk S.toArray)) := by
    have r : Rw ((w1.alloc (.cells #[(.int .i64 (kk : Int)), (.int .u64 0), (.int .u64 0), (.int .i64 0), (.int .i64 0), (.int .u64 0), (.int .u64 0), (.int .u64 0), (.int .i64 0), (.slice none 0 0), (.slice none 0 0)] 32)).alloc (.cells #[.string (ByteArray.mk #[]), .string (ByteArray.mk #[104, 103, 99, 113, 120]), .string (ByteArray.mk #[104, 103, 99, 113, 112, 100]), .string (ByteArray.mk #[104, 103, 99, 113, 112, 120]), .string (ByteArray.mk #[104, 103, 112]), .string (ByteArray.mk #[104, 103, 112]), .string (ByteArray.mk #[104, 103, 118]), .string (ByteArray.mk #[98, 115]), .string (ByteArray.mk #[98, 115, 120]), .string (ByteArray.mk #[98, 115, 120]), .string (ByteArray.mk #[98, 115]), .string (ByteArray.mk #[98]), .string (ByteArray.mk #[115, 120]), .string (ByteArray.mk #[115]), .string (ByteArray.mk #[99, 113, 112]), .string (ByteArray.mk #[104, 103, 99, 113, 112, 100, 120]), .string (ByteArray.mk #[104, 103, 99, 113, 112, 100]), .string (ByteArray.mk #[99, 113, 112, 100]), .string (ByteArray.mk #[98, 115])] 9)) (w1.alloc (.cells #[(.int .i64 (kk : Int)), (.int .u64 0), (.int .u64 0), (.int .i64 0), (.int .i64 0), (.int .u64 0), (.int .u64 0), (.int .u64 0), (.int .i64 0), (.slice none 0 0), (.slice none 0 0)] 32)).heap.size strV 9 := NB.rw_new (w1.alloc (.cells #[(.int .i64 (kk : Int)), (.int .u64 0), (.int .u64 0), (.int .i64 0), (.int .i64 0), (.int .u64 0), (.int .u64 0), (.int .u64 0), (.int .i64 0), (.slice none 0 0), (.slice none 0 0)] 32)) strV 9 rfl
    rw [z2] at r
    exact r.cell kk _ SA.out
  have B4 : Below w.heap.size w (((w1.alloc (.cells #[(.int .i64 (kk : Int)), (.int .u64 0), (.int .u64 0), (.int .i64 0), (.int .i64 0), (.int .u64 0), (.int .u64 0), (.int .u64 0), (.int .i64 0), (.slice none 0 0), (.slice none 0 0)] 32)).alloc (.cells #[.string (ByteArray.mk #[]), .string (ByteArray.mk #[104, 103, 99, 113, 120]), .string (ByteArray.mk #[104, 103, 99, 113, 112, 100]), .string (ByteArray.mk #[104, 103, 99, 113, 112, 120]), .string (ByteArray.mk #[104, 103, 112]), .string (ByteArray.mk #[104, 103, 112]), .string (ByteArray.mk #[104, 103, 118]), .string (ByteArray.mk #[98, 115]), .string (ByteArray.mk #[98, 115, 120]), .string (ByteArray.mk #[98, 115, 120]), .string (ByteArray.mk #[98, 115]), .string (ByteArray.mk #[98]), .string (ByteArray.mk #[115, 120]), .string (ByteArray.mk #[115]), .string (ByteArray.mk #[99, 113, 112]), .string (ByteArray.mk #[104, 103, 99, 113, 112, 100, 120]), .string (ByteArray.mk #[104, 103, 99, 113, 112, 100]), .string (ByteArray.mk #[99, 113, 112, 100]), .string (ByteArray.mk #[98, 115])] 9)).alloc (.cells #[.int .u8 0] 5)) := NB.bel B3 (oneB ((w1.alloc (.cells #[(.int .i64 (kk : Int)), (.int .u64 0), (.int .u64 0), (.int .i64 0), (.int .i64 0), (.int .u64 0), (.int .u64 0), (.int .u64 0), (.int .i64 0), (.slice none 0 0), (.slice none 0 0)] 32)).alloc (.cells #[.string (ByteArray.mk #[]), .string (ByteArray.mk #[104, 103, 99, 113, 120]), .string (ByteArray.mk #[104, 103, 99, 113, 112, 100]), .string (ByteArray.mk #[104, 103, 99, 113, 112, 120]), .string (ByteArray.mk #[104, 103, 112]), .string (ByteArray.mk #[104, 103, 112]), .string (ByteArray.mk #[104, 103, 118]), .string (ByteArray.mk #[98, 115]), .string (ByteArray.mk #[98, 115, 120]), .string (ByteArray.mk #[98, 115, 120]), .string (ByteArray.mk #[98, 115]), .string (ByteArray.mk #[98]), .string (ByteArray.mk #[115, 120]), .string (ByteArray.mk #[115]), .string (ByteArray.mk #[99, 113, 112]), .string (ByteArray.mk #[104, 103, 99, 113, 112, 100, 120]), .string (ByteArray.mk #[104, 103, 99, 113, 112, 100]), .string (ByteArray.mk #[99, 113, 112, 100]), .string (ByteArray.mk #[98, 115])] 9)) _) B3.size
  have R4 : Rw (((w1.alloc (.cells #[(.int .i64 (kk : Int)), (.int .u64 0), (.int .u64 0), (.int .i64 0), (.int .i64 0), (.int .u64 0), (.int .u64 0), (.int .u64 0), (.int .i64 0), (.slice none 0 0), (.slice none 0 0)] 32)).alloc (.cells #[.string (ByteArray.mk #[]), .string (ByteArray.mk #[104, 103, 99, 113, 120]), .string (ByteArray.mk #[104, 103, 99, 113, 112, 100]), .string (ByteArray.mk #[104, 103, 99, 113, 112, 120]), .string (ByteArray.mk #[104, 103, 112]), .string (ByteArray.mk #[104, 103, 112]), .string (ByteArray.mk #[104, 103, 118]), .string (ByteArray.mk #[98, 115]), .string (ByteArray.mk #[98, 115, 120]), .string (ByteArray.mk #[98, 115, 120]), .string (ByteArray.mk #[98, 115]), .string (ByteArray.mk #[98]), .string (ByteArray.mk #[115, 120]), .string (ByteArray.mk #[115]), .string (ByteArray.mk #[99, 113, 112]), .string (ByteArray.mk #[104, 103, 99, 113, 112, 100, 120]), .string (ByteArray.mk #[104, 103, 99, 113, 112, 100]), .string (ByteArray.mk #[99, 113, 112, 100]), .string (ByteArray.mk #[98, 115])] 9)).alloc (.cells #[.int .u8 0] 5)) w1.heap.size [(.int .i64 (kk : Int)), (.int .u64 0), (.int .u64 0), (.int .i64 0), (.int .i64 0), (.int .u64 0), (.int .u64 0), (.int .u64 0), (.int .i64 0), (.slice none 0 0), (.slice none 0 0)] 32 := R3.below (oneB ((w1.alloc (.cells #[(.int .i64 (kk : Int)), (.int .u64 0), (.int .u64 0), (.int .i64 0), (.int .i64 0), (.int .u64 0), (.int .u64 0), (.int .u64 0), (.int .i64 0), (.slice none 0 0), (.slice none 0 0)] 32)).alloc (.cells #[.string (ByteArray.mk #[]), .string (ByteArray.mk #[104, 103, 99, 113, 120]), .string (ByteArray.mk #[104, 103, 99, 113, 112, 100]), .string (ByteArray.mk #[104, 103, 99, 113, 112, 120]), .string (ByteArray.mk #[104, 103, 112]), .string (ByteArray.mk #[104, 103, 112]), .string (ByteArray.mk #[104, 103, 118]), .string (ByteArray.mk #[98, 115]), .string (ByteArray.mk #[98, 115, 120]), .string (ByteArray.mk #[98, 115, 120]), .string (ByteArray.mk #[98, 115]), .string (ByteArray.mk #[98]), .string (ByteArray.mk #[115, 120]), .string (ByteArray.mk #[115]), .string (ByteArray.mk #[99, 113, 112]), .string (ByteArray.mk #[104, 103, 99, 113, 112, 100, 120]), .string (ByteArray.mk #[104, 103, 99, 113, 112, 100]), .string (ByteArray.mk #[99, 113, 112, 100]), .string (ByteArray.mk #[98, 115])] 9)) _)
  have z4 : ((w1.alloc (.cells #[(.int .i64 (kk : Int)), (.int .u64 0), (.int .u64 0), (.int .i64 0), (.int .i64 0), (.int .u64 0), (.int .u64 0), (.int .u64 0), (.int .i64 0), (.slice none 0 0), (.slice none 0 0)] 32)).alloc (.cells #[.string (ByteArray.mk #[]), .string (ByteArray.mk #[104, 103, 99, 113, 120]), .string (ByteArray.mk #[104, 103, 99, 113, 112, 100]), .string (ByteArray.mk #[104, 103, 99, 113, 112, 120]), .string (ByteArray.mk #[104, 103, 112]), .string (ByteArray.mk #[104, 103, 112]), .string (ByteArray.mk #[104, 103, 118]), .string (ByteArray.mk #[98, 115]), .string (ByteArray.mk #[98, 115, 120]), .string (ByteArray.mk #[98, 115, 120]), .string (ByteArray.mk #[98, 115]), .string (ByteArray.mk #[98]), .string (ByteArray.mk #[115, 120]), .string (ByteArray.mk #[115]), .string (ByteArray.mk #[99, 113, 112]), .string (ByteArray.mk #[104, 103, 99, 113, 112, 100, 120]), .string (ByteArray.mk #[104, 103, 99, 113, 112, 100]), .string (ByteArray.mk #[99, 113, 112, 100]), .string (ByteArray.mk #[98, 115])] 9)).heap.size = w1.heap.size + 2 := by simp
  have c10 := R4.cell 10 _ rfl
  have f10 := R4.free 10
  have B5 : Below w.heap.size w (((w1.alloc (.cells #[(.int .i64 (kk : Int)), (.int .u64 0), (.int .u64 0), (.int .i64 0), (.int .i64 0), (.int .u64 0), (.int .u64 0), (.int .u64 0), (.int .i64 0), (.slice none 0 0), (.slice (some ⟨w1.heap.size + 2, 0, none⟩) 1 1)] 32)).alloc (.cells #[.string (ByteArray.mk #[]), .string (ByteArray.mk #[104, 103, 99, 113, 120]), .string (ByteArray.mk #[104, 103, 99, 113, 112, 100]), .string (ByteArray.mk #[104, 103, 99, 113, 112, 120]), .string (ByteArray.mk #[104, 103, 112]), .string (ByteArray.mk #[104, 103, 112]), .string (ByteArray.mk #[104, 103, 118]), .string (ByteArray.mk #[98, 115]), .string (ByteArray.mk #[98, 115, 120]), .string (ByteArray.mk #[98, 115, 120]), .string (ByteArray.mk #[98, 115]), .string (ByteArray.mk #[98]), .string (ByteArray.mk #[115, 120]), .string (ByteArray.mk #[115]), .string (ByteArray.mk #[99, 113, 112]), .string (ByteArray.mk #[104, 103, 99, 113, 112, 100, 120]), .string (ByteArray.mk #[104, 103, 99, 113, 112, 100]), .string (ByteArray.mk #[99, 113, 112, 100]), .string (ByteArray.mk #[98, 115])] 9)).alloc (.cells #[.int .u8 0] 5)) := NB.bel (NB.bel (NB.bel hb1 (oneB w1 _) hb1.size) (oneB (w1.alloc (.cells #[(.int .i64 (kk : Int)), (.int .u64 0), (.int .u64 0), (.int .i64 0), (.int .i64 0), (.int .u64 0), (.int .u64 0), (.int .u64 0), (.int .i64 0), (.slice none 0 0), (.slice (some ⟨w1.heap.size + 2, 0, none⟩) 1 1)] 32)) _) (NB.bel hb1 (oneB w1 _) hb1.size).size) (oneB ((w1.alloc (.cells #[(.int .i64 (kk : Int)), (.int .u64 0), (.int .u64 0), (.int .i64 0), (.int .i64 0), (.int .u64 0), (.int .u64 0), (.int .u64 0), (.int .i64 0), (.slice none 0 0), (.slice (some ⟨w1.heap.size + 2, 0, none⟩) 1 1)] 32)).alloc (.cells #[.string (ByteArray.mk #[]), .string (ByteArray.mk #[104, 103, 99, 113, 120]), .string (ByteArray.mk #[104, 103, 99, 113, 112, 100]), .string (ByteArray.mk #[104, 103, 99, 113, 112, 120]), .string (ByteArray.mk #[104, 103, 112]), .string (ByteArray.mk #[104, 103, 112]), .string (ByteArray.mk #[104, 103, 118]), .string (ByteArray.mk #[98, 115]), .string (ByteArray.mk #[98, 115, 120]), .string (ByteArray.mk #[98, 115, 120]), .string (ByteArray.mk #[98, 115]), .string (ByteArray.mk #[98]), .string (ByteArray.mk #[115, 120]), .string (ByteArray.mk #[115]), .string (ByteArray.mk #[99, 113, 112]), .string (ByteArray.mk #[104, 103, 99, 113, 112, 100, 120]), .string (ByteArray.mk #[104, 103, 99, 113, 112, 100]), .string (ByteArray.mk #[99, 113, 112, 100]), .string (ByteArray.mk #[98, 115])] 9)) _) (NB.bel (NB.bel hb1 (oneB w1 _) hb1.size) (oneB (w1.alloc (.cells #[(.int .i64 (kk : Int)), (.int .u64 0), (.int .u64 0), (.int .i64 0), (.int .i64 0), (.int .u64 0), (.int .u64 0), (.int .u64 0), (.int .i64 0), (.slice none 0 0), (.slice (some ⟨w1.heap.size + 2, 0, none⟩) 1 1)] 32)) _) (NB.bel hb1 (oneB w1 _) hb1.size).size).size
  have R5 : Rw (((w1.alloc (.cells #[(.int .i64 (kk : Int)), (.int .u64 0), (.int .u64 0), (.int .i64 0), (.int .i64 0), (.int .u64 0), (.int .u64 0), (.int .u64 0), (.int .i64 0), (.slice none 0 0), (.slice (some ⟨w1.heap.size + 2, 0, none⟩) 1 1)] 32)).alloc (.cells #[.string (ByteArray.mk #[]), .string (ByteArray.mk #[104, 103, 99, 113, 120]), .string (ByteArray.mk #[104, 103, 99, 113, 112, 100]), .string (ByteArray.mk #[104, 103, 99, 113, 112, 120]), .string (ByteArray.mk #[104, 103, 112]), .string (ByteArray.mk #[104, 103, 112]), .string (ByteArray.mk #[104, 103, 118]), .string (ByteArray.mk #[98, 115]), .string (ByteArray.mk #[98, 115, 120]), .string (ByteArray.mk #[98, 115, 120]), .string (ByteArray.mk #[98, 115]), .string (ByteArray.mk #[98]), .string (ByteArray.mk #[115, 120]), .string (ByteArray.mk #[115]), .string (ByteArray.mk #[99, 113, 112]), .string (ByteArray.mk #[104, 103, 99, 113, 112, 100, 120]), .string (ByteArray.mk #[104, 103, 99, 113, 112, 100]), .string (ByteArray.mk #[99, 113, 112, 100]), .string (ByteArray.mk #[98, 115])] 9)).alloc (.cells #[.int .u8 0] 5)) w1.heap.size [(.int .i64 (kk : Int)), (.int .u64 0), (.int .u64 0), (.int .i64 0), (.int .i64 0), (.int .u64 0), (.int .u64 0), (.int .u64 0), (.int .i64 0), (.slice none 0 0), (.slice (some ⟨w1.heap.size + 2, 0, none⟩) 1 1)] 32 := ((NB.rw_new w1 _ 32 rfl).below (oneB (w1.alloc (.cells #[(.int .i64 (kk : Int)), (.int .u64 0), (.int .u64 0), (.int .i64 0), (.int .i64 0), (.int .u64 0), (.int .u64 0), (.int .u64 0), (.int .i64 0), (.slice none 0 0), (.slice (some ⟨w1.heap.size + 2, 0, none⟩) 1 1)] 32)) _)).below (oneB ((w1.alloc (.cells #[(.int .i64 (kk : Int)), (.int .u64 0), (.int .u64 0), (.int .i64 0), (.int .i64 0), (.int .u64 0), (.int .u64 0), (.int .u64 0), (.int .i64 0), (.slice none 0 0), (.slice (some ⟨w1.heap.size + 2, 0, none⟩) 1 1)] 32)).alloc (.cells #[.string (ByteArray.mk #[]), .string (ByteArray.mk #[104, 103, 99, 113, 120]), .string (ByteArray.mk #[104, 103, 99, 113, 112, 100]), .string (ByteArray.mk #[104, 103, 99, 113, 112, 120]), .string (ByteArray.mk #[104, 103, 112]), .string (ByteArray.mk #[104, 103, 112]), .string (ByteArray.mk #[104, 103, 118]), .string (ByteArray.mk #[98, 115]), .string (ByteArray.mk #[98, 115, 120]), .string (ByteArray.mk #[98, 115, 120]), .string (ByteArray.mk #[98, 115]), .string (ByteArray.mk #[98]), .string (ByteArray.mk #[115, 120]), .string (ByteArray.mk #[115]), .string (ByteArray.mk #[99, 113, 112]), .string (ByteArray.mk #[104, 103, 99, 113, 112, 100, 120]), .string (ByteArray.mk #[104, 103, 99, 113, 112, 100]), .string (ByteArray.mk #[99, 113, 112, 100]), .string (ByteArray.mk #[98, 115])] 9)) _)
  have hT5 := HT.out.grow B5
  have l5 := R5.lt
  clear R3 B2 B3 R4 B4 hb1 hT1
  go_wp2_with fail
  go_loopw [10, 11] (fun x y wr => ∃ i : Nat, i ≤ S.length ∧ x = .bool ((S.take i).any (· == 120)) ∧ y = .int .i64 (i : Int) ∧ Below w.heap.size w wr ∧ Rw wr w1.heap.size [(.int .i64 (kk : Int)), (.int .u64 0), (.int .u64 0), (.int .i64 0), (.int .i64 0), (.int .u64 0), (.int .u64 0), (.int .u64 0), (.int .i64 0), (.slice none 0 0), (.slice (some ⟨w1.heap.size + 2, 0, none⟩) 1 1)] 32) (fun _ y _ => S.length - (intOf y).toNat)
  case atStart => exact ⟨0, by omega, rfl, rfl, B5, R5⟩
  case round =>
    obtain ⟨i, hi, rfl, rfl, BR, RR⟩ := hrel
    clear B5 R5 hT5 hm
    by_cases hlt : i < S.length
    case neg =>
      have hli : ¬ (i : Int) < (S.length : Int) := by omega
      rw [List.take_of_length_le (by omega)]
      have hv : S.any (· == 120) = V := HV.out
      rw [hv]
      clear hv
      have e0 := RR.cell 0 _ rfl
      have e1 := RR.cell 1 _ rfl
      have e2 := RR.cell 2 _ rfl
      have e3 := RR.cell 3 _ rfl
      have e4 := RR.cell 4 _ rfl
      have e5 := RR.cell 5 _ rfl
      have e6 := RR.cell 6 _ rfl
      have e7 := RR.cell 7 _ rfl
      have e8 := RR.cell 8 _ rfl
      have e9 := RR.cell 9 _ rfl
      have e10 := RR.cell 10 _ rfl
      cases V
      all_goals (
        simp only [Bool.false_eq_true, if_true, if_false, reduceIte] at CK
        go_wp2_with fail
        refine (CK.out _ (HT.out.grow BR) none 0 (some ⟨w1.heap.size + 2, 0, none⟩) 1).mono ?_
        rintro e w9 ⟨rfl, hb9⟩
        have B9 := NB.bel BR hb9 BR.size
        go_wp2_with fail
        go_ret
        exact ⟨rfl, B9⟩)
    have hli : (i : Int) < (S.length : Int) := by omega
    have htk : S.take (i + 1) = S.take i ++ [S[i]] := by rw [List.take_add_one, List.getElem?_eq_getElem hlt]; rfl
    have hix : S.toArray[i]? = some S[i] := by simp [hlt]
    obtain ⟨v, hv⟩ : ∃ v, (S.take i).any (· == 120) = v := ⟨_, rfl⟩
    rw [hv]
    have HN : (S.take (i + 1)).any (· == 120) = (v || S[i] == 120) := by rw [htk, List.any_append, hv]; simp
    have HN := Go.Lib.hid HN
    clear htk hv
    cases v
    · go_wp2_with fail
      refine NB.wp_region_t [] (by kernel_rfl) ?_
      refine NB.t_p 0 rfl (by kernel_rfl) (fun K hK => ?_); go_simp; refine hK _ ?_; clear hK K
      refine NB.t_p 1 rfl (by kernel_rfl) (fun K hK => ?_); go_simp; refine hK _ ?_; clear hK K
      refine NB.t_p 2 rfl (by kernel_rfl) (fun K hK => ?_); go_simp; refine hK _ ?_; clear hK K
      refine NB.t_p 3 rfl (by kernel_rfl) (fun K hK => ?_); go_simp; refine hK _ ?_; clear hK K
      refine NB.t_p 4 rfl (by kernel_rfl) (fun K hK => ?_); go_simp; refine hK _ ?_; clear hK K
      refine NB.t_p 5 rfl (by kernel_rfl) (fun K hK => ?_); go_simp; refine hK _ ?_; clear hK K
      refine NB.t_p 6 rfl (by kernel_rfl) (fun K hK => ?_); go_simp; refine hK _ ?_; clear hK K
      refine NB.t_p 7 rfl (by kernel_rfl) (fun K hK => ?_); go_simp; refine hK _ ?_; clear hK K
      refine NB.t_p 8 rfl (by kernel_rfl) (fun K hK => ?_); go_simp; refine hK _ ?_; clear hK K
      refine NB.t_p 9 rfl (by kernel_rfl) (fun K hK => ?_); go_simp; refine hK _ ?_; clear hK K
      refine NB.t_end (by kernel_rfl) ?_
      go_wp2_with fail
      go_round
      case rel => exact ⟨i + 1, by omega, by rw [HN.out, Bool.false_or]; exact congrArg Value.bool (byte_eq S[i] 120), by go_num, BR.trans (dB _ |>.mono BR.size), RR.below (dB _)⟩
      case measure => simp [intOf]; omega
    · go_wp2_with fail
      refine NB.wp_region_t [] (by kernel_rfl) ?_
      refine NB.t_p 0 rfl (by kernel_rfl) (fun K hK => ?_); go_simp; refine hK _ ?_; clear hK K
      refine NB.t_p 1 rfl (by kernel_rfl) (fun K hK => ?_); go_simp; refine hK _ ?_; clear hK K
      refine NB.t_p 2 rfl (by kernel_rfl) (fun K hK => ?_); go_simp; refine hK _ ?_; clear hK K
      refine NB.t_p 3 rfl (by kernel_rfl) (fun K hK => ?_); go_simp; refine hK _ ?_; clear hK K
      refine NB.t_p 4 rfl (by kernel_rfl) (fun K hK => ?_); go_simp; refine hK _ ?_; clear hK K
      refine NB.t_p 5 rfl (by kernel_rfl) (fun K hK => ?_); go_simp; refine hK _ ?_; clear hK K
      refine NB.t_p 6 rfl (by kernel_rfl) (fun K hK => ?_); go_simp; refine hK _ ?_; clear hK K
      refine NB.t_p 7 rfl (by kernel_rfl) (fun K hK => ?_); go_simp; refine hK _ ?_; clear hK K
      refine NB.t_p 8 rfl (by kernel_rfl) (fun K hK => ?_); go_simp; refine hK _ ?_; clear hK K
      refine NB.t_p 9 rfl (by kernel_rfl) (fun K hK => ?_); go_simp; refine hK _ ?_; clear hK K
      refine NB.t_end (by kernel_rfl) ?_
      go_wp2_with fail
      go_round
      case rel => exact ⟨i + 1, by omega, by rw [HN.out]; rfl, by go_num, BR.trans (dB _ |>.mono BR.size), RR.below (dB _)⟩
      case measure => simp [intOf]; omega
end Go.Proofs.YtadgokegjmigoaaDoor
