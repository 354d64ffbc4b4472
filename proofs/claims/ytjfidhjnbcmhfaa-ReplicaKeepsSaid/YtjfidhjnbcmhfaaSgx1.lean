/- A record out of a region's map. Walked. How a segment lies in memory. Its small calls, walked. A segment's Sync, walked. Bytes cut into pieces: slices.Chunk, slices.Collect. Walked. slices.Collect, walked. A record is added to a segment: what memory holds. -/
import Derived.Test.YtjfidhjnbcmhfaaSgd
import Derived.Test.YtjfidhjnbcmhfaaTail
import Derived.Deep.Cut
import Derived.Test.YtjfidhjnbcmhfaaOpen
import Derived.Test.YtjfidhjnbcmhfaaSlc
import Derived.Test.YtjfidhjnbcmhfaaRng
namespace Go.Proofs.Ytjfidhjnbcmhfaa
open Go.RowKit
open Go.NB (Rd Dk Kp Stp Off Dis val oneB dB Rw MapI KeyI I64)

def RecS (w : World) (r : Option (List UInt8 × Nat × Nat)) (e : Ending) (w' : World) : Prop :=
  match r with
  | none => e = .returned (.tuple #[.slice none 0 0, .int .u64 0, .bool false]) ∧ Below w.heap.size w w'
  | some (b, _, x) => ∃ v, e = .returned (.tuple #[v, .int .u64 (x : Int), .bool true]) ∧ NB.OwnB w' w.heap.size 5 v b ∧ Below w.heap.size w w'
theorem recS_none {w w' : World} {e : Ending} {r : Option (List UInt8 × Nat × Nat)} (hr : r = none) (he : e = .returned (.tuple #[.slice none 0 0, .int .u64 0, .bool false])) (hb : Below w.heap.size w w') : RecS w r e w' := by
  subst hr; exact ⟨he, hb⟩
theorem lk_len {R : List (List UInt8)} {i : Nat} {y : Bk} (h : lk R i = some y) : y.bs.length ≤ 45 := by
  unfold lk at h
  cases hr : R[i]? with
  | none => rw [hr] at h; cases h
  | some b =>
    rw [hr, Option.bind_some] at h
    unfold readB at h
    split at h
    · injection h with h
      rw [← h]
      simp only [bkOf, List.length_take]
      omega
    · cases h
theorem gath_none {R : List (List UInt8)} {u i n : Nat} {f : Bk} (h : lk R (u + i) = none) : gath R u f (n + 1) i = none := by rw [gath, h]
theorem gath_bad {R : List (List UInt8)} {u i n : Nat} {f y : Bk} (h : lk R (u + i) = some y) (hb : y.pl ≠ f.pl ∨ y.ep ≠ f.ep ∨ y.pt ≠ i ∨ y.pn ≠ f.pn) : gath R u f (n + 1) i = none := by
  rw [gath, h]; simp only; rw [if_pos hb]
theorem gath_short {R : List (List UInt8)} {u i n : Nat} {f y : Bk} (h : lk R (u + i) = some y) (hb : ¬ (y.pl ≠ f.pl ∨ y.ep ≠ f.ep ∨ y.pt ≠ i ∨ y.pn ≠ f.pn)) (hs : (i + 1 < f.pn ∧ y.bs.length < 45) ∨ (i + 1 = f.pn ∧ y.bs.length = 0 ∧ 0 < i)) : gath R u f (n + 1) i = none := by
  rw [gath, h]; simp only; rw [if_neg hb, if_pos hs]
theorem gath_go {R : List (List UInt8)} {u i n : Nat} {f y : Bk} (h : lk R (u + i) = some y) (hb : ¬ (y.pl ≠ f.pl ∨ y.ep ≠ f.ep ∨ y.pt ≠ i ∨ y.pn ≠ f.pn)) (hs : ¬ ((i + 1 < f.pn ∧ y.bs.length < 45) ∨ (i + 1 = f.pn ∧ y.bs.length = 0 ∧ 0 < i))) : gath R u f (n + 1) i = (gath R u f n (i + 1)).map (y.bs ++ ·) := by
  rw [gath, h]; simp only; rw [if_neg hb, if_neg hs]
theorem neI {x y : Nat} (h : x ≠ y) : ((x : Int) != (y : Int)) = true := by
  have : ((x : Int) == (y : Int)) = false := by rw [beq_eq_false_iff_ne]; omega
  simp [bne, this]
theorem eqI {x y : Nat} (h : x = y) : ((x : Int) != (y : Int)) = false := by subst h; simp [bne]

set_option maxRecDepth 100000 in
set_option maxHeartbeats 4000000 in
theorem record_any (w : World) (bm m : Nat) (R : List (List UInt8)) (at_ place ep : Nat) (h : MapK w bm m R R.length) (hRn : R.length ≤ 65536) (hat : at_ ≤ R.length) (hp : place ≤ 65536) (hep : ep < 18446744073709551616) :
    Calls Try.prog 36 #[.map (some bm), .int .i64 (at_ : Int), .int .u64 (place : Int), .int .u64 (ep : Int)] w (RecS w (recordM R at_ place ep)) := by
  obtain ⟨f, hf, hfl⟩ := h
  have hfk : ∀ i : Nat, BlkF w (f (i : Int)) (lk R i) := fun i => by
    have := hfl i
    by_cases hi : i < R.length
    · rwa [if_pos hi] at this
    · rw [if_neg hi] at this
      have e : lk R i = none := by unfold lk; rw [List.getElem?_eq_none (by omega)]; rfl
      rwa [e]
  clear hfl
  have HFK := Go.Lib.hid hfk
  have hwa := i64_nat (k := at_) (by omega)
  have h0 := hfk at_
  cases hl : lk R at_ with
  | none =>
    have hrec : recordM R at_ place ep = none := by unfold recordM; rw [hl]
    rw [hrec]
    rw [hl] at h0
    have h0' : f (at_ : Int) = none := h0
    have hlook := NB.look_i keyB Try.underlying85 hf hwa
    rw [h0'] at hlook
    simp only [Option.getD_none, Option.isSome_none] at hlook
    clear hfk h0 hf HFK h0' hl hrec
    go_enter Try.func36, Try.ntmps36
    go_wp2_with fail
    go_step3
    go_wp2_with (refine NB.wpList_store_agg_any rfl 93 (.tmp 11) (.tmp 22) rfl rfl w.heap.size 0 _ rfl rfl 93 _ (heap_alloc_new w _) (by kernel_rfl) (by simp) (by simp [Value.oneCell']) _ (NB.splice_all _ _ (by simp)) ?_; intro w5 hg5 hr5 hs5; have hR5 : Rw w5 w.heap.size _ 93 := hr5; obtain ⟨d0, d1, d2, d3, d4, _⟩ := NB.rw5 hR5; have hbn := new_below hg5; clear hg5 hr5 hs5)
    go_ret3
    exact recS_none rfl rfl (NB.bel (Below.refl _ _) hbn (Nat.le_refl _))
  | some x =>
    rw [hl] at h0
    obtain ⟨a0, n0, c0, h0', hb0⟩ := h0
    unfold blkV at h0'
    have hwp : IntKind.u64.wrap ((place : Int) + 1) = (place : Int) + 1 := by rw [IntKind.wrap_u64]; omega
    have hlook := NB.look_i keyB Try.underlying85 hf hwa
    rw [h0'] at hlook
    simp only [Option.getD_some, Option.isSome_some] at hlook
    have HF := Go.Lib.hid hf
    have hbm := hf.lt
    have HL := Go.Lib.hid hl
    obtain ⟨xe, xl, xt, xn, xb⟩ := x
    simp only at hlook hb0
    clear hfk hf h0' hl hwa
    go_enter Try.func36, Try.ntmps36
    go_wp2_with fail
    go_step3
    go_upto_region 2 with (refine NB.wpList_store_agg_any rfl 93 (.tmp 11) (.tmp 22) rfl rfl w.heap.size 0 _ rfl rfl 93 _ (heap_alloc_new w _) (by kernel_rfl) (by simp) (by simp [Value.oneCell']) _ (NB.splice_all _ _ (by simp)) ?_; intro w5 hg5 hr5 hs5; have hR5 : Rw w5 w.heap.size _ 93 := hr5; obtain ⟨d0, d1, d2, d3, d4, _⟩ := NB.rw5 hR5; have hbn := new_below hg5; clear hg5 hr5 hs5)
    have B5 : Below w.heap.size w w5 := hbn
    have hlt5 : w.heap.size < w5.heap.size := hR5.lt
    by_cases p1 : xl = place + 1
    case neg =>
      have hrec : recordM R at_ place ep = none := by unfold recordM; rw [HL.out]; simp only; rw [if_pos (by omega)]
      have q1 : ((xl : Int) != (place : Int) + 1) = true := by have := neI p1; push_cast at this; exact this
      go_wp2_with fail
      go_ret3
      first | exact recS_none hrec rfl B5 | exact recS_none rfl rfl B5
    have q1 : ((xl : Int) != (place : Int) + 1) = false := by have := eqI p1; push_cast at this; exact this
    by_cases p2 : xt = 0
    case neg =>
      have hrec : recordM R at_ place ep = none := by unfold recordM; rw [HL.out]; simp only; rw [if_pos (by omega)]
      have q2 : ((xt : Int) != 0) = true := neI p2
      go_wp2_with fail
      go_ret3
      first | exact recS_none hrec rfl B5 | exact recS_none rfl rfl B5
    have q2 : ((xt : Int) != 0) = false := eqI p2
    by_cases p3 : xn < 1
    case pos =>
      have hrec : recordM R at_ place ep = none := by unfold recordM; rw [HL.out]; simp only; rw [if_pos (by omega)]
      have q3 : (xn : Int) < 1 := by omega
      go_wp2_with fail
      go_ret3
      first | exact recS_none hrec rfl B5 | exact recS_none rfl rfl B5
    have q3 : ¬ (xn : Int) < 1 := by omega
    by_cases p4 : 92 < xn
    case pos =>
      have hrec : recordM R at_ place ep = none := by unfold recordM; rw [HL.out]; simp only; rw [if_pos (by omega)]
      have q4 : (92 : Int) < (xn : Int) := by omega
      go_wp2_with fail
      go_ret3
      first | exact recS_none hrec rfl B5 | exact recS_none rfl rfl B5
    have q4 : ¬ (92 : Int) < (xn : Int) := by omega
    by_cases p5 : xe < ep
    case pos =>
      have hrec : recordM R at_ place ep = none := by unfold recordM; rw [HL.out]; simp only; rw [if_pos (by omega)]
      have q5 : (xe : Int) < (ep : Int) := by omega
      go_wp2_with fail
      go_ret3
      first | exact recS_none hrec rfl B5 | exact recS_none rfl rfl B5
    have q5 : ¬ (xe : Int) < (ep : Int) := by omega
    have hrec : recordM R at_ place ep = (gath R at_ ⟨xe, xl, xt, xn, xb⟩ xn 0).map fun b => (b, xn, xe) := by
      unfold recordM; rw [HL.out]; simp only; rw [if_neg (by omega)]
    have HREC := Go.Lib.hid hrec
    clear hrec
    go_wp2_with fail
    go_step3
    clear q1 q2 q3 q4 q5 hwp hlook
    go_wp2_with fail
    go_loopw [56, 13] (fun i o wr => ∃ (k : Nat) (acc : List UInt8), k < xn ∧ i = .int .i64 (k : Int) ∧ wr.ownsRow (w.heap.size + 1) 5 1 o acc.length (acc.map NB.u8v) ∧ acc.length ≤ 45 * k ∧ gath R at_ ⟨xe, xl, xt, xn, xb⟩ xn 0 = (gath R at_ ⟨xe, xl, xt, xn, xb⟩ (xn - k) k).map (acc ++ ·) ∧ Rw wr w.heap.size [.int .u64 (xe : Int), .int .u64 (xl : Int), .int .i64 (xt : Int), .int .i64 (xn : Int), .slice a0 n0 c0] 93 ∧ Below w.heap.size w wr) (fun i _ _ => xn - (intOf i).toNat)
    case atStart =>
      exact ⟨0, [], by omega, rfl, World.ownsRow_nil _ _ _ _, by simp, by cases gath R at_ ⟨xe, xl, xt, xn, xb⟩ xn 0 <;> simp, hR5, B5⟩
    case round =>
      obtain ⟨k, acc, hk, rfl, hown, hacc, hg, hRw, B⟩ := hrel
      have HG := Go.Lib.hid hg
      clear hg hbn hR5 d0 d1 d2 d3 d4
      have hlt := hRw.lt
      obtain ⟨d0, d1, d2, d3, d4, _⟩ := NB.rw5 hRw
      have hki : (k : Int) < (xn : Int) := by omega
      have hwk : IntKind.i64.wrap ((at_ : Int) + (k : Int)) = (at_ : Int) + (k : Int) := IntWalk.i64_in _ ⟨by omega, by omega⟩
      have hwn : IntKind.i64.wrap ((xn : Int) - 1) = (xn : Int) - 1 := IntWalk.i64_in _ ⟨by omega, by omega⟩
      have hwi : I64 ((at_ : Int) + (k : Int)) := by have := i64_nat (k := at_ + k) (by omega); push_cast at this; exact this
      have hlook := NB.look_i keyB Try.underlying85 (HF.out.keep (B.block bm hbm)) hwi
      have hbk := HFK.out (at_ + k)
      push_cast at hbk
      have hsplit : xn - k = (xn - k - 1) + 1 := by omega
      cases hl : lk R (at_ + k) with
      | none =>
        rw [hl] at hbk
        have hbk' : f ((at_ : Int) + (k : Int)) = none := hbk
        rw [hbk'] at hlook
        simp only [Option.getD_none, Option.isSome_none] at hlook
        have hrec : recordM R at_ place ep = none := by rw [HREC.out, HG.out, hsplit, gath_none hl]; rfl
        clear hbk hbk' HFK HG
        go_upto_region 9 with (refine NB.wpList_store_agg_any rfl 93 (.tmp 15) (.tmp 65) rfl rfl wr.heap.size 0 _ rfl rfl 93 _ (heap_alloc_new wr _) (by kernel_rfl) (by simp) (by simp [Value.oneCell']) _ (NB.splice_all _ _ (by simp)) ?_; intro w7 hg5 hr5 hs5; have hR5 : Rw w7 wr.heap.size _ 93 := hr5; obtain ⟨e0, e1, e2, e3, e4, _⟩ := NB.rw5 hR5; have hbn := new_below hg5; clear hg5 hr5 hs5)
        have B7 := NB.bel B hbn B.size
        have hRw7 := hRw.below hbn
        obtain ⟨f0, f1, f2, f3, f4, _⟩ := NB.rw5 hRw7
        clear hown hRw B d0 d1 d2 d3 d4 hlook hR5 hwk hwi hbn hlt
        go_wp2_with fail
        go_ret3
        first | exact recS_none hrec rfl B7 | exact recS_none rfl rfl B7
      | some y =>
        rw [hl] at hbk
        obtain ⟨a1, n1, c1, hbk', hb1⟩ := hbk
        unfold blkV at hbk'
        rw [hbk'] at hlook
        simp only [Option.getD_some, Option.isSome_some] at hlook
        have HLK := Go.Lib.hid hl
        obtain ⟨ye, yl, yt, yn, yb⟩ := y
        simp only at hlook hb1
        clear hbk' hl HFK
        go_upto_region 9 with (refine NB.wpList_store_agg_any rfl 93 (.tmp 15) (.tmp 65) rfl rfl wr.heap.size 0 _ rfl rfl 93 _ (heap_alloc_new wr _) (by kernel_rfl) (by simp) (by simp [Value.oneCell']) _ (NB.splice_all _ _ (by simp)) ?_; intro w7 hg5 hr5 hs5; have hR5 : Rw w7 wr.heap.size _ 93 := hr5; obtain ⟨e0, e1, e2, e3, e4, _⟩ := NB.rw5 hR5; have hbn := new_below hg5; clear hg5 hr5 hs5)
        have B7 := NB.bel B hbn B.size
        have hown7 := NB.own_keep hown hbn
        have hRw7 := hRw.below hbn
        have hlt7 : w.heap.size < w7.heap.size := hRw7.lt
        have hb7 := Rd.below hb1 B7
        obtain rfl : n1 = yb.length := (NB.RdB.size hb1).symm
        have hbd1 := Rd.bound hb1
        obtain ⟨f0, f1, f2, f3, f4, _⟩ := NB.rw5 hRw7
        have hgo := hown7.lt
        have hyl : yb.length ≤ 45 := lk_len HLK.out
        clear hown hRw B d0 d1 d2 d3 d4 hlook hR5 hwk hwi hbn hlt hb1
        by_cases p6 : yl = xl
        case neg =>
          have hrec : recordM R at_ place ep = none := by rw [HREC.out, HG.out, hsplit, gath_bad HLK.out (.inl p6)]; rfl
          have q6 := neI p6
          go_wp2_with fail
          go_ret3
          first | exact recS_none hrec rfl B7 | exact recS_none rfl rfl B7
        have q6 := eqI p6
        by_cases p7 : ye = xe
        case neg =>
          have hrec : recordM R at_ place ep = none := by rw [HREC.out, HG.out, hsplit, gath_bad HLK.out (.inr (.inl p7))]; rfl
          have q7 := neI p7
          go_wp2_with fail
          go_ret3
          first | exact recS_none hrec rfl B7 | exact recS_none rfl rfl B7
        have q7 := eqI p7
        by_cases p8 : yt = k
        case neg =>
          have hrec : recordM R at_ place ep = none := by rw [HREC.out, HG.out, hsplit, gath_bad HLK.out (.inr (.inr (.inl p8)))]; rfl
          have q8 := neI p8
          go_wp2_with fail
          go_ret3
          first | exact recS_none hrec rfl B7 | exact recS_none rfl rfl B7
        have q8 := eqI p8
        by_cases p9 : yn = xn
        case neg =>
          have hrec : recordM R at_ place ep = none := by rw [HREC.out, HG.out, hsplit, gath_bad HLK.out (.inr (.inr (.inr p9)))]; rfl
          have q9 := neI p9
          go_wp2_with fail
          go_ret3
          first | exact recS_none hrec rfl B7 | exact recS_none rfl rfl B7
        have q9 := eqI p9
        have hgood : ¬ (yl ≠ xl ∨ ye ≠ xe ∨ yt ≠ k ∨ yn ≠ xn) := by omega
        have HGO := Go.Lib.hid hgood
        clear hgood
        by_cases hla : k + 1 = xn
        · have hL : ((k : Int) == (xn : Int) - 1) = true := by rw [beq_iff_eq]; omega
          by_cases hz : yb.length = 0 ∧ 0 < k
          · have hrec : recordM R at_ place ep = none := by rw [HREC.out, HG.out, hsplit, gath_short HLK.out HGO.out (.inr ⟨hla, hz.1, hz.2⟩)]; rfl
            have q10 : ((yb.length : Int) == 0) = true := by rw [beq_iff_eq]; omega
            have q11 : (0 : Int) < (k : Int) := by omega
            go_wp2_with fail
            go_ret3
            first | exact recS_none hrec rfl B7 | exact recS_none rfl rfl B7
          · have hgo2 := gath_go (f := ⟨xe, xl, xt, xn, xb⟩) (n := xn - k - 1) HLK.out HGO.out (show ¬ ((k + 1 < xn ∧ yb.length < 45) ∨ (k + 1 = xn ∧ yb.length = 0 ∧ 0 < k)) by omega)
            have hrec : recordM R at_ place ep = some (acc ++ yb, xn, xe) := by
              rw [HREC.out, HG.out, hsplit, hgo2, show xn - k - 1 = 0 by omega]
              simp [gath]
            have hal : acc.length ≤ 4140 := by omega
            by_cases hz1 : yb.length = 0
            · have q10 : ((yb.length : Int) == 0) = true := by rw [beq_iff_eq]; omega
              have q11 : ¬ (0 : Int) < (k : Int) := by omega
              obtain rfl : yb = [] := List.eq_nil_of_length_eq_zero hz1
              simp only [List.length_nil, List.map_nil, List.append_nil] at *
              go_wp2_with (at_builtin; refine NB.wpList_append_at rfl (.tmp 124) (.tmp 126) 22 rfl (w.heap.size + 1) slTB _ _ (acc.map NB.u8v) rfl hown7 a1 0 c1 [] rfl hb7 (by simp) (by omega) (by unfold maxLen; omega) hlt7 ?_; intro v8 w8 ho8 hg8 hv8)
              have hR8 : Rw w8 w.heap.size _ 93 := (hg8.block _ hlt7 (fun e => by have := (hgo _ e.symm).1; omega)).trans hRw7
              have B8 : Below w.heap.size w w8 := B7.grown hg8 B7.size (fun k' hk' => by have := (hgo k' hk').1; omega)
              refine NB.wp_region_m (by kernel_rfl) ?_
              have hX8 : Rw w8.drew w.heap.size _ 93 := hR8.below (dB _)
              have B9 : Below w.heap.size w w8.drew := B8.drew
              have ho9 := NB.own_keep ho8 (dB w8)
              clear hR8 B8 ho8 hg8
              generalize w8.drew = w9 at *
              obtain ⟨g0, _⟩ := NB.rw5 hX8
              refine NB.any_p 0 rfl (by kernel_rfl) (fun K hK => ?_); go_simp; refine hK _ ?_; clear hK K
              refine NB.any_p 1 rfl (by kernel_rfl) (fun K hK => ?_); go_simp; refine hK _ ?_; clear hK K
              refine NB.any_r 2 rfl (by kernel_rfl) rfl _ (fun w' hw' => NB.run_op_load rfl rfl Try.underlying32 rfl (g0) hw') (fun K hK => ?_); go_simp; refine hK _ ?_; clear hK K
              refine NB.any_p 3 rfl (by kernel_rfl) (fun K hK => ?_); go_simp; refine hK _ ?_; clear hK K
              refine NB.any_p 4 rfl (by kernel_rfl) (fun K hK => ?_); go_simp; refine hK _ ?_; clear hK K
              refine NB.any_p 5 rfl (by kernel_rfl) (fun K hK => ?_); go_simp; refine hK _ ?_; clear hK K
              refine NB.any_end (by kernel_rfl) ?_
              go_wp2_with fail
              go_ret3
              rw [hrec]
              exact ⟨_, rfl, NB.own_mono (by simpa using ho9) (Nat.le_succ _), B9⟩
            · have q10 : ((yb.length : Int) == 0) = false := by rw [beq_eq_false_iff_ne]; omega
              go_wp2_with (at_builtin; refine NB.wpList_append_at rfl (.tmp 124) (.tmp 126) 22 rfl (w.heap.size + 1) slTB _ _ (acc.map NB.u8v) rfl hown7 a1 yb.length c1 (yb.map NB.u8v) rfl hb7 (NB.u8v_one yb) (by omega) (by unfold maxLen; omega) hlt7 ?_; intro v8 w8 ho8 hg8 hv8)
              have hR8 : Rw w8 w.heap.size _ 93 := (hg8.block _ hlt7 (fun e => by have := (hgo _ e.symm).1; omega)).trans hRw7
              have B8 : Below w.heap.size w w8 := B7.grown hg8 B7.size (fun k' hk' => by have := (hgo k' hk').1; omega)
              refine NB.wp_region_m (by kernel_rfl) ?_
              have hX8 : Rw w8.drew w.heap.size _ 93 := hR8.below (dB _)
              have B9 : Below w.heap.size w w8.drew := B8.drew
              have ho9 := NB.own_keep ho8 (dB w8)
              clear hR8 B8 ho8 hg8
              generalize w8.drew = w9 at *
              obtain ⟨g0, _⟩ := NB.rw5 hX8
              refine NB.any_p 0 rfl (by kernel_rfl) (fun K hK => ?_); go_simp; refine hK _ ?_; clear hK K
              refine NB.any_p 1 rfl (by kernel_rfl) (fun K hK => ?_); go_simp; refine hK _ ?_; clear hK K
              refine NB.any_r 2 rfl (by kernel_rfl) rfl _ (fun w' hw' => NB.run_op_load rfl rfl Try.underlying32 rfl (g0) hw') (fun K hK => ?_); go_simp; refine hK _ ?_; clear hK K
              refine NB.any_p 3 rfl (by kernel_rfl) (fun K hK => ?_); go_simp; refine hK _ ?_; clear hK K
              refine NB.any_p 4 rfl (by kernel_rfl) (fun K hK => ?_); go_simp; refine hK _ ?_; clear hK K
              refine NB.any_p 5 rfl (by kernel_rfl) (fun K hK => ?_); go_simp; refine hK _ ?_; clear hK K
              refine NB.any_end (by kernel_rfl) ?_
              go_wp2_with fail
              go_ret3
              rw [hrec]
              exact ⟨_, rfl, NB.own_mono (by simpa using ho9) (Nat.le_succ _), B9⟩
        · have hL : ((k : Int) == (xn : Int) - 1) = false := by rw [beq_eq_false_iff_ne]; omega
          by_cases hs : yb.length < 45
          · have hrec : recordM R at_ place ep = none := by rw [HREC.out, HG.out, hsplit, gath_short HLK.out HGO.out (.inl ⟨by simp only; omega, hs⟩)]; rfl
            have q10 : (yb.length : Int) < 45 := by omega
            go_wp2_with fail
            go_ret3
            first | exact recS_none hrec rfl B7 | exact recS_none rfl rfl B7
          · have hgo2 := gath_go (f := ⟨xe, xl, xt, xn, xb⟩) (n := xn - k - 1) HLK.out HGO.out (show ¬ ((k + 1 < xn ∧ yb.length < 45) ∨ (k + 1 = xn ∧ yb.length = 0 ∧ 0 < k)) by omega)
            have q10 : ¬ (yb.length : Int) < 45 := by omega
            have hal : acc.length ≤ 4140 := by omega
            go_wp2_with (at_builtin; refine NB.wpList_append_at rfl (.tmp 124) (.tmp 126) 22 rfl (w.heap.size + 1) slTB _ _ (acc.map NB.u8v) rfl hown7 a1 yb.length c1 (yb.map NB.u8v) rfl hb7 (NB.u8v_one yb) (by omega) (by unfold maxLen; omega) hlt7 ?_; intro v8 w8 ho8 hg8 hv8)
            have hR8 : Rw w8 w.heap.size _ 93 := (hg8.block _ hlt7 (fun e => by have := (hgo _ e.symm).1; omega)).trans hRw7
            have B8 : Below w.heap.size w w8 := B7.grown hg8 B7.size (fun k' hk' => by have := (hgo k' hk').1; omega)
            refine ⟨⟨k + 1, acc ++ yb, by omega, by go_num, by simpa using ho8, by rw [List.length_append]; omega, ?_, hR8, B8⟩, by simp [intOf]; omega⟩
            rw [HG.out, hsplit, hgo2, show xn - k - 1 = xn - (k + 1) by omega, Option.map_map]
            congr 1
            funext z
            simp
end Go.Proofs.Ytjfidhjnbcmhfaa
namespace Go.Proofs.Ytjfidhjnbcmhfaa
open Go.RowKit
open Go.NB (Rd Dk Kp Stp Off Dis val oneB dB Rw MapI KeyI I64)

/-- A record's slice. -/
structure Itm where
  a : Option Addr
  c : Nat
  b : List UInt8
def itV (l : List Itm) : List Value := l.map fun x => .slice x.a x.b.length x.c
def sgV (p : Nat) (v : Value) (S : Sg) : List Value := [.pointer (some ⟨p, 0, none⟩), .int .i64 (S.frm : Int), .int .i64 (S.n : Int), .int .u64 (S.epoch : Int), v, .int .i64 (S.used : Int), .int .i64 (S.sure : Int), .int .i64 (S.gone : Int), .int .i64 S.e]
theorem slTL : NB.SlT Try.prog 44 22 (.slice none 0 0) 1 24 := ⟨Try.underlying44, info_parts (by kernel_rfl), rfl, by omega⟩

structure IsSg (w : World) (base q p : Nat) (v : Value) (its : List Itm) (S : Sg) : Prop where
  row : Rw w q (sgV p v S) 89
  own : w.ownsRow base 22 1 v its.length (itV its)
  rd : ∀ x ∈ its, NB.RdB w x.a x.b.length x.c x.b
  lo : ∀ x ∈ its, ∀ b o, x.a = some ⟨b, o, none⟩ → x.b ≠ [] → base ≤ b ∧ b ≠ q ∧ v.ownBlock ≠ some b
  l : its.map (·.b) = S.l
  ge : base ≤ q
  qo : v.ownBlock ≠ some q
  frm : S.frm ≤ 65536
  n : S.n ≤ 65536
  used : S.used ≤ S.n
  len : S.l.length ≤ S.used
  epoch : S.epoch ≤ 4294967295
  sure : S.sure ≤ S.l.length
  gone : S.gone ≤ S.sure
def footS (q : Nat) (v : Value) (its : List Itm) (k : Nat) : Prop := k = q ∨ v.ownBlock = some k ∨ ∃ x ∈ its, x.b ≠ [] ∧ ∃ o, x.a = some ⟨k, o, none⟩
def HasSg (w : World) (base q p : Nat) (F : Nat → Prop) (S : Sg) : Prop := ∃ v its, IsSg w base q p v its S ∧ F = footS q v its

section
variable {w w' : World} {base q p : Nat} {v : Value} {its : List Itm} {S : Sg} {F : Nat → Prop}
theorem IsSg.foot (h : IsSg w base q p v its S) (k : Nat) (hk : footS q v its k) : base ≤ k ∧ k < w.heap.size := by
  rcases hk with rfl | hk | ⟨x, hx, hb, o, ha⟩
  · exact ⟨h.ge, h.row.lt⟩
  · exact h.own.lt k hk
  · exact ⟨(h.lo x hx k o ha hb).1, Rd.lt (h.rd x hx) k o ha (by intro e; rw [List.map_eq_nil_iff] at e; exact hb e)⟩
theorem HasSg.foot (h : HasSg w base q p F S) (k : Nat) (hk : F k) : base ≤ k ∧ k < w.heap.size := by
  obtain ⟨v, its, h, rfl⟩ := h; exact h.foot k hk
theorem IsSg.keep {G : Nat → Prop} (h : IsSg w base q p v its S) (hk : Kp G w w') (hG : Dis (footS q v its) G) : IsSg w' base q p v its S :=
  { h with
    row := h.row.keep hk (hG q (.inl rfl))
    own := hk.own h.own (fun k e => hG k (.inr (.inl e)))
    rd := fun x hx => hk.rdB (h.rd x hx) (fun b o e hb => hG b (.inr (.inr ⟨x, hx, hb, o, e⟩))) }
theorem HasSg.keep {G : Nat → Prop} (h : HasSg w base q p F S) (hk : Kp G w w') (hG : Dis F G) : HasSg w' base q p F S := by
  obtain ⟨v, its, h, rfl⟩ := h; exact ⟨v, its, h.keep hk hG, rfl⟩
theorem HasSg.below (h : HasSg w base q p F S) (hb : Below w.heap.size w w') : HasSg w' base q p F S := h.keep (G := fun _ => False) (Kp.of_below hb) (fun _ _ h => h)
theorem IsSg.below (h : IsSg w base q p v its S) (hb : Below w.heap.size w w') : IsSg w' base q p v its S := h.keep (G := fun _ => False) (Kp.of_below hb) (fun _ _ h => h)
theorem HasSg.base_le (h : HasSg w base q p F S) : base ≤ w.heap.size := by
  obtain ⟨v, its, h, rfl⟩ := h; have := h.ge; have := h.row.lt; omega
theorem HasSg.low {F' : Nat → Prop} (h : HasSg w base q p F S) (hs : Stp F F' w w') : Below base w w' := hs.low h.base_le (fun k hk => (h.foot k hk).1)
/-- One cell of the struct turns. -/
theorem IsSg.cellv (h : IsSg w base q p v its S) (j : Nat) (u : Value) (hu : (sgV p v S)[j]? = some u) : w.cell? ⟨q, j, none⟩ = some u := h.row.cell j u hu
theorem IsSg.free (h : IsSg w base q p v its S) (j : Nat) : w.frozen? ⟨q, j, none⟩ = false := h.row.free j
theorem IsSg.field (h : IsSg w base q p v its S) (j : Nat) (u : Value) (S' : Sg) (hr : (sgV p v S).set j u = sgV p v S') (hl : S'.l = S.l) (hf : S'.frm ≤ 65536) (hn : S'.n ≤ 65536) (hus : S'.used ≤ S'.n) (hln : S'.l.length ≤ S'.used) (he : S'.epoch ≤ 4294967295) (hsu : S'.sure ≤ S'.l.length) (hg : S'.gone ≤ S'.sure) :
    IsSg (w.setCell ⟨q, j, none⟩ u) base q p v its S' ∧ Kp (fun k => k = q) w (w.setCell ⟨q, j, none⟩ u) := by
  have hk : Kp (fun k => k = q) w (w.setCell ⟨q, j, none⟩ u) := (Kp.refl (fun k => k = q) w).setCell (x := ⟨q, j, none⟩) (.inl rfl) u
  refine ⟨{ row := by have := h.row.set j u; rwa [hr] at this, own := hk.own h.own (fun k e hkq => by subst hkq; exact h.qo e), rd := fun x hx => hk.rdB (h.rd x hx) (fun b o e hb hbq => (h.lo x hx b o e hb).2.1 hbq), lo := h.lo, l := by rw [hl]; exact h.l, ge := h.ge, qo := h.qo, frm := hf, n := hn, used := hus, len := hln, epoch := he, sure := hsu, gone := hg }, hk⟩
theorem IsSg.size (h : IsSg w base q p v its S) : its.length = S.l.length := by rw [← h.l, List.length_map]
/-- The slice of records. -/
theorem IsSg.slice (h : IsSg w base q p v its S) : ∃ a c, v = .slice a S.l.length c ∧ Rd 1 w a S.l.length c (itV its) := by
  obtain ⟨a, c, e, hr, _⟩ := NB.rd_of_own h.own
  rw [h.size] at e hr
  exact ⟨a, c, e, hr⟩
end

set_option maxHeartbeats 400000 in
theorem slen_nil (w : World) : Calls Try.prog 25 #[.pointer none] w fun e w' => e = .returned (.int .i64 0) ∧ w' = w := by
  go_enter Try.func25, Try.ntmps25
  go_wp2
  go_ret
  exact ⟨rfl, rfl⟩
set_option maxHeartbeats 400000 in
theorem slen_any (w : World) (base q p : Nat) (F : Nat → Prop) (S : Sg) (h : HasSg w base q p F S) : Calls Try.prog 25 #[.pointer (some ⟨q, 0, none⟩)] w fun e w' => e = .returned (.int .i64 (S.l.length : Int)) ∧ w' = w := by
  obtain ⟨v, its, h, rfl⟩ := h
  obtain ⟨a, c, rfl, _⟩ := h.slice
  have c4 := h.cellv 4 _ rfl
  go_enter Try.func25, Try.ntmps25
  go_wp2
  go_ret
  exact ⟨rfl, rfl⟩
set_option maxHeartbeats 400000 in
theorem ssure_nil (w : World) : Calls Try.prog 29 #[.pointer none] w fun e w' => e = .returned (.int .i64 0) ∧ w' = w := by
  go_enter Try.func29, Try.ntmps29
  go_wp2
  go_ret
  exact ⟨rfl, rfl⟩
set_option maxHeartbeats 400000 in
theorem ssure_any (w : World) (base q p : Nat) (F : Nat → Prop) (S : Sg) (h : HasSg w base q p F S) : Calls Try.prog 29 #[.pointer (some ⟨q, 0, none⟩)] w fun e w' => e = .returned (.int .i64 (S.sure : Int)) ∧ w' = w := by
  obtain ⟨v, its, h, rfl⟩ := h
  have c6 := h.cellv 6 _ rfl
  go_enter Try.func29, Try.ntmps29
  go_wp2
  go_ret
  exact ⟨rfl, rfl⟩
set_option maxHeartbeats 400000 in
theorem sfree_nil (w : World) : Calls Try.prog 56 #[.pointer none] w fun e w' => e = .returned (.int .i64 0) ∧ w' = w := by
  go_enter Try.func56, Try.ntmps56
  go_wp2
  go_ret
  exact ⟨rfl, rfl⟩
theorem i64_sub {a b : Nat} (ha : a ≤ 1000000) (hb : b ≤ 1000000) : IntKind.i64.wrap ((a : Int) - (b : Int)) = (a : Int) - (b : Int) := IntWalk.i64_in _ ⟨by omega, by omega⟩
theorem i64_add {a b : Nat} (ha : a ≤ 1000000) (hb : b ≤ 1000000) : IntKind.i64.wrap ((a : Int) + (b : Int)) = (a : Int) + (b : Int) := IntWalk.i64_in _ ⟨by omega, by omega⟩
set_option maxHeartbeats 400000 in
theorem sfree_any (w : World) (base q p : Nat) (F : Nat → Prop) (S : Sg) (h : HasSg w base q p F S) : Calls Try.prog 56 #[.pointer (some ⟨q, 0, none⟩)] w fun e w' => e = .returned (.int .i64 ((S.n : Int) - (S.used : Int))) ∧ Below w.heap.size w w' := by
  obtain ⟨v, its, h, rfl⟩ := h
  have c2 := h.cellv 2 _ rfl
  have c5 := h.cellv 5 _ rfl
  have hn := h.n
  have hu := h.used
  have hw := i64_sub (a := S.n) (b := S.used) (by omega) (by omega)
  clear hn hu
  go_enter Try.func56, Try.ntmps56
  go_wp2_with fail
  refine NB.wp_region_m (by kernel_rfl) ?_
  have c2' : w.drew.cell? ⟨q, 2, none⟩ = some (.int .i64 (S.n : Int)) := c2
  have c5' : w.drew.cell? ⟨q, 5, none⟩ = some (.int .i64 (S.used : Int)) := c5
  have hb := dB w
  generalize w.drew = v at *
  refine NB.any_p 0 rfl (by kernel_rfl) (fun K hK => ?_); go_simp; refine hK _ ?_; clear hK K
  refine NB.any_p 1 rfl (by kernel_rfl) (fun K hK => ?_); go_simp; refine hK _ ?_; clear hK K
  refine NB.any_p 2 rfl (by kernel_rfl) (fun K hK => ?_); go_simp; refine hK _ ?_; clear hK K
  refine NB.any_r 3 rfl (by kernel_rfl) rfl _ (fun w' hw' => NB.run_op_load rfl rfl Try.underlying3 rfl (c2') hw') (fun K hK => ?_); go_simp; refine hK _ ?_; clear hK K
  refine NB.any_p 4 rfl (by kernel_rfl) (fun K hK => ?_); go_simp; refine hK _ ?_; clear hK K
  refine NB.any_p 5 rfl (by kernel_rfl) (fun K hK => ?_); go_simp; refine hK _ ?_; clear hK K
  refine NB.any_p 6 rfl (by kernel_rfl) (fun K hK => ?_); go_simp; refine hK _ ?_; clear hK K
  refine NB.any_r 7 rfl (by kernel_rfl) rfl _ (fun w' hw' => NB.run_op_load rfl rfl Try.underlying3 rfl (c5') hw') (fun K hK => ?_); go_simp; refine hK _ ?_; clear hK K
  refine NB.any_p 8 rfl (by kernel_rfl) (fun K hK => ?_); go_simp; refine hK _ ?_; clear hK K
  refine NB.any_p 9 rfl (by kernel_rfl) (fun K hK => ?_); go_simp; refine hK _ ?_; clear hK K
  refine NB.any_end (by kernel_rfl) ?_
  go_wp2_with fail
  go_ret
  exact ⟨rfl, hb⟩

def ReadSg (w : World) (r : List UInt8 × Int) (e : Ending) (w' : World) : Prop :=
  ∃ a c, e = .returned (.tuple #[.slice a r.1.length c, .int .i64 r.2]) ∧ NB.OwnB w' w.heap.size 5 (.slice a r.1.length c) r.1 ∧ Below w.heap.size w w'
theorem readSg_err (w : World) (x : Int) : ReadSg w ([], x) (.returned (.tuple #[.slice none 0 0, .int .i64 x])) w :=
  ⟨none, 0, rfl, World.ownsRow_nil _ _ _ _, Below.refl _ _⟩
set_option maxHeartbeats 400000 in
theorem srd_nil (w : World) (k : Int) : Calls Try.prog 27 #[.pointer none, .int .i64 k] w fun e w' => e = .returned (.tuple #[.slice none 0 0, .int .i64 1]) ∧ w' = w := by
  go_enter Try.func27, Try.ntmps27
  go_wp2
  go_ret2
  exact ⟨rfl, rfl⟩
set_option maxHeartbeats 1000000 in
theorem srd_any (w : World) (base q p : Nat) (F : Nat → Prop) (S : Sg) (k : Int) (h : HasSg w base q p F S) (hb : ∀ b ∈ S.l, b.length ≤ 100000) :
    Calls Try.prog 27 #[.pointer (some ⟨q, 0, none⟩), .int .i64 k] w (ReadSg w (redM S k)) := by
  obtain ⟨v, its, h, rfl⟩ := h
  obtain ⟨a, c, rfl, hr⟩ := h.slice
  have c4 := h.cellv 4 _ rfl
  have c7 := h.cellv 7 _ rfl
  by_cases hk0 : k < 0
  · have hq : redM S k = ([], 15) := by unfold redM; rw [if_pos (.inl hk0)]
    rw [hq]
    go_enter Try.func27, Try.ntmps27
    go_wp2
    go_ret2
    exact readSg_err w 15
  by_cases hk1 : (S.l.length : Int) ≤ k
  · have hq : redM S k = ([], 15) := by unfold redM; rw [if_pos (.inr hk1)]
    rw [hq]
    go_enter Try.func27, Try.ntmps27
    go_wp2
    go_ret2
    exact readSg_err w 15
  by_cases hk2 : k < (S.gone : Int)
  · have hq : redM S k = ([], 35) := by unfold redM; rw [if_neg (by omega), if_pos hk2]
    rw [hq]
    go_enter Try.func27, Try.ntmps27
    go_wp2
    go_ret2
    exact readSg_err w 35
  · obtain ⟨j, rfl⟩ := Int.eq_ofNat_of_zero_le (show 0 ≤ k by omega)
    have hj : j < S.l.length := by omega
    have hji : (j : Int) < (S.l.length : Int) := by omega
    have hsz := h.size
    have hx : its[j]? = some (its[j]'(by omega)) := List.getElem?_eq_getElem (by omega)
    obtain ⟨x, hxe⟩ : ∃ x, its[j]'(by omega) = x := ⟨_, rfl⟩
    rw [hxe] at hx
    have hxm : x ∈ its := List.mem_of_getElem? hx
    have hq : redM S (j : Int) = (x.b, 0) := by
      unfold redM
      rw [if_neg (by omega), if_neg hk2, Int.toNat_natCast, ← h.l, List.getD_eq_getElem?_getD, List.getElem?_map, hx]
      rfl
    rw [hq]
    have hrx := h.rd x hxm
    have hbx := hb x.b (by rw [← h.l]; exact List.mem_map_of_mem hxm)
    obtain ⟨g, o, ha, hcl⟩ := hr.pos (by omega)
    have hcx : w.cell? ⟨g, o + j, none⟩ = some (.slice x.a x.b.length x.c) := hcl j _ (by rw [itV, List.getElem?_map, hx]; rfl)
    subst ha
    have ctc := clone_any w x.a x.b.length x.c x.b hrx (by omega)
    clear hr hcl hq hx hxe h
    go_enter Try.func27, Try.ntmps27
    go_wp2_with fail
    refine ctc.mono ?_
    rintro e w1 ⟨a1, c1, rfl, ho, hb1⟩
    go_wp2_with fail
    go_ret2
    exact ⟨a1, c1, rfl, ho, hb1⟩

end Go.Proofs.Ytjfidhjnbcmhfaa
namespace Go.Proofs.Ytjfidhjnbcmhfaa
open Go.RowKit
open Go.NB (Rd Dk Kp Stp Off Dis val oneB dB Rw MapI KeyI I64)

theorem Stp.addL {F F' : Nat → Prop} {a b : World} (h : Stp F F' a b) (G : Nat → Prop) : Stp (fun k => G k ∨ F k) (fun k => G k ∨ F' k) a b :=
  ⟨h.kp.imp (fun _ hk => .inr hk), fun k hk => hk.elim (fun h1 => .inl (.inl h1)) (fun h1 => (h.sub k h1).elim (fun h2 => .inl (.inr h2)) .inr)⟩
theorem stp_left {F F' : Nat → Prop} {a b : World} (h : Stp F F' a b) (G : Nat → Prop) : Stp (fun k => F k ∨ G k) (fun k => F' k ∨ G k) a b := h.add G

/-- What a call of a segment and its disk leaves. -/
def DidS (w : World) (base q based p : Nat) (F G : Nat → Prop) (S' : Sg) (D' : Dk) (w' : World) : Prop :=
  ∃ F' G', HasSg w' base q p F' S' ∧ HasD w' based p G' D' ∧ Dis F' G' ∧ Stp (fun k => F k ∨ G k) (fun k => F' k ∨ G' k) w w'

set_option maxHeartbeats 400000 in
theorem ssync_nil (w : World) : Calls Try.prog 43 #[.pointer none] w fun e w' => e = .returned (.int .i64 1) ∧ w' = w := by
  go_enter Try.func43, Try.ntmps43
  go_wp2
  go_ret
  exact ⟨rfl, rfl⟩
set_option maxHeartbeats 1000000 in
theorem ssync_any (w : World) (base q based p : Nat) (F G : Nat → Prop) (S : Sg) (D : Dk) (h : HasSg w base q p F S) (hD : HasD w based p G D) (hFG : Dis F G) (hwn : D.waits.length ≤ 1000000) :
    Calls Try.prog 43 #[.pointer (some ⟨q, 0, none⟩)] w fun e w' => e = .returned (.int .i64 (synM D S).2.2) ∧ DidS w base q based p F G (synM D S).2.1 (synM D S).1 w' := by
  obtain ⟨v, its, h, rfl⟩ := h
  obtain ⟨a, c, rfl, _⟩ := h.slice
  have c8 := h.cellv 8 _ rfl
  have c0 := h.cellv 0 _ rfl
  by_cases he : S.e = 0
  case neg =>
    have hq : synM D S = (D, S, S.e) := by unfold synM; rw [if_pos he]
    have he' : (S.e == 0) = false := by simpa using he
    rw [hq]
    go_enter Try.func43, Try.ntmps43
    go_wp2
    go_ret
    exact ⟨rfl, _, _, ⟨_, its, h, rfl⟩, hD, hFG, Stp.refl _ _⟩
  case pos =>
    rw [he] at c8
    obtain ⟨D', x, hx⟩ : ∃ D' x, D.sync = (D', x) := ⟨_, _, rfl⟩
    have ctd := dsync_any w based p G D hD hwn
    rw [hx] at ctd
    have hq : synM D S = if x ≠ 0 then (D', { S with e := x }, x) else (D', { S with sure := S.l.length }, 0) := by
      unfold synM; rw [if_neg (by rw [he]; simp), hx]
    have hlow : ∀ k, footS q (.slice a S.l.length c) its k → k < w.heap.size := fun k hk => (h.foot k hk).2
    by_cases hx0 : x = 0
    case neg =>
      have hxb : (x == 0) = false := by simpa using hx0
      rw [hq, if_pos hx0]
      clear hq hx
      go_enter Try.func43, Try.ntmps43
      go_wp2_with fail
      refine ctd.mono ?_
      rintro e w1 ⟨rfl, G1, hD1, hS1⟩
      have h1 := h.keep hS1.kp hFG
      have hFG1 := hFG.step hlow hS1
      have d8 := h1.cellv 8 _ rfl
      have f8 := h1.free 8
      have hstp : Stp (fun k => footS q (.slice a S.l.length c) its k ∨ G k) (fun k => footS q (.slice a S.l.length c) its k ∨ G1 k) w w1 := Stp.addL hS1 _
      clear h hD ctd c8 c0
      simp only at hD1 ⊢
      obtain ⟨h2, hk2⟩ := h1.field 8 (.int .i64 x) { S with e := x } rfl rfl h1.frm h1.n h1.used h1.len h1.epoch h1.sure h1.gone
      have n8 := h2.cellv 8 _ rfl
      go_wp2_with fail
      go_ret
      exact ⟨rfl, _, _, ⟨_, its, h2, rfl⟩, hD1.keep hk2 (fun i hi e => by subst e; exact hFG1 _ (.inl rfl) hi), hFG1, hstp.trans (Stp.of_kp (hk2.imp fun k hk => .inl (.inl hk)))⟩
    case pos =>
      subst hx0
      rw [hq, if_neg (by simp)]
      clear hq hx
      go_enter Try.func43, Try.ntmps43
      go_wp2_with fail
      refine ctd.mono ?_
      rintro e w1 ⟨rfl, G1, hD1, hS1⟩
      have h1 := h.keep hS1.kp hFG
      have hFG1 := hFG.step hlow hS1
      have d8 := h1.cellv 8 _ rfl
      have f8 := h1.free 8
      have hstp : Stp (fun k => footS q (.slice a S.l.length c) its k ∨ G k) (fun k => footS q (.slice a S.l.length c) its k ∨ G1 k) w w1 := Stp.addL hS1 _
      clear h hD ctd c8 c0
      simp only at hD1 ⊢
      obtain ⟨h2, hk2⟩ := h1.field 8 (.int .i64 0) { S with e := 0 } rfl rfl h1.frm h1.n h1.used h1.len h1.epoch h1.sure h1.gone
      have n8 := h2.cellv 8 _ rfl
      have n4 := h2.cellv 4 _ rfl
      have n6 := h2.cellv 6 _ rfl
      have f6 := h2.free 6
      obtain ⟨h3, hk3⟩ := h2.field 6 (.int .i64 (S.l.length : Int)) { S with e := 0, sure := S.l.length } rfl rfl h1.frm h1.n h1.used h1.len h1.epoch (Nat.le_refl _) (Nat.le_trans h1.gone h1.sure)
      have m8 := h3.cellv 8 _ rfl
      go_wp2_with fail
      go_ret
      have hSS : ({ S with e := 0, sure := S.l.length } : Sg) = { S with sure := S.l.length } := by rw [← he]
      have hk : Kp (fun k => k = q) w1 _ := hk2.trans hk3 (fun i hi => .inl hi)
      first | (exact ⟨rfl, _, _, ⟨_, its, h3, rfl⟩, hD1.keep hk (fun i hi e => by subst e; exact hFG1 _ (.inl rfl) hi), hFG1, hstp.trans (Stp.of_kp (hk.imp fun k hk => .inl (.inl hk)))⟩) | (rw [hSS] at h3; exact ⟨rfl, _, _, ⟨_, its, h3, rfl⟩, hD1.keep hk (fun i hi e => by subst e; exact hFG1 _ (.inl rfl) hi), hFG1, hstp.trans (Stp.of_kp (hk.imp fun k hk => .inl (.inl hk)))⟩)
end Go.Proofs.Ytjfidhjnbcmhfaa
namespace Go.Proofs.Ytjfidhjnbcmhfaa
open Go.RowKit Go.Shelf
open Go.NB (Rd Dk Kp Stp Off Dis val oneB dB Rw MapI KeyI I64 Lp)
attribute [local go_sem] Oper.semAt_some

set_option maxHeartbeats 400000 in
theorem chunk_any (w : World) (a : Option Addr) (n c : Nat) : Calls Try.prog 58 #[.slice a n c, .int .i64 45] w fun e w' => e = .returned (.func (.func 69) #[] #[.pointer (some ⟨w.heap.size, 0, none⟩), .pointer (some ⟨w.heap.size + 1, 0, none⟩)]) ∧ w' = (w.alloc (.cells #[.slice a n c] 22)).alloc (.cells #[.int .i64 45] 3) := by
  go_enter Try.func58, Try.ntmps58
  go_wp2
  go_ret
  exact ⟨rfl, rfl⟩

set_option maxHeartbeats 2000000 in
/-- The iterator: it tells all pieces, whatever the rounds do, if they keep 'J'. -/
theorem chunk1_in (m : Nat) (hm : 1 ≤ m) (l0 bs bn : Nat) (sa : Option Addr) (sn sc : Nat) (b : List UInt8) (hsn : sn ≤ 1000000) (J : Nat → World → Prop)
    (hJc : ∀ k W, J k W → W.cell? ⟨bs, 0, none⟩ = some (.slice sa sn sc) ∧ W.cell? ⟨bn, 0, none⟩ = some (.int .i64 45) ∧ NB.RdB W sa sn sc b)
    (hJd0 : ∀ k W, J k W → J k W.drew)
    (hY : ∀ k W g o, J k W → 45 * k < sn → sa = some ⟨g, o, none⟩ → YieldAt Fence.wide (m - 1) Try.prog l0 #[.slice (some ⟨g, o + 45 * k, none⟩) (min 45 (sn - 45 * k)) (min 45 (sn - 45 * k))] W fun e W' => e = .returned (.bool true) ∧ J (k + 1) W')
    (W : World) (h0 : J 0 W) :
    CallsIn Fence.wide m Try.prog 69 #[.func (.yield l0) #[] #[], .pointer (some ⟨bs, 0, none⟩), .pointer (some ⟨bn, 0, none⟩)] W fun e W' => (∃ v, e = .returned v) ∧ ∃ k, J k W' ∧ sn ≤ 45 * k ∧ (k = 0 ∨ 45 * (k - 1) < sn) := by
  refine callsIn_of_wp Try.func69 rfl trivial ?_ rfl
  simp only [Try.ntmps69, List.size_toArray, List.length_cons, List.length_nil, Nat.reduceAdd, Nat.reduceSub, Array.replicate_succ, Array.replicate_zero, List.push_toArray, List.append_toArray, List.nil_append, List.cons_append]
  gi_wp2
  gi_loopw [4] (fun q wr => ∃ k : Nat, q = .int .i64 (45 * (k : Int)) ∧ J k wr ∧ (k = 0 ∨ 45 * (k - 1) < sn)) (fun q _ => sn + 45 - (intOf q).toNat)
  case atStart => exact ⟨0, rfl, h0, .inl rfl⟩
  case round =>
    obtain ⟨k, rfl, hJ, hk0⟩ := hrel
    obtain ⟨cs0, cn0, hrb0⟩ := hJc _ _ hJ
    have hle := hrb0.le
    have hbd := Rd.bound hrb0
    by_cases hlt : 45 * k < sn
    · have hki : 45 * (k : Int) < (sn : Int) := by omega
      have hki2 : 45 * (k : Int) ≤ (sn : Int) := by omega
      have hkc : 45 * (k : Int) ≤ (sc : Int) := by omega
      have hk00 : (0 : Int) ≤ 45 * (k : Int) := by omega
      have hkT : (45 * (k : Int)).toNat = 45 * k := by omega
      obtain ⟨g, o, rfl, _⟩ := NB.RdB.at hrb0 (by omega)
      have hE : min (45 : Int) ((sn - 45 * k : Nat) : Int) = ((min 45 (sn - 45 * k) : Nat) : Int) := by omega
      obtain ⟨E, hEe⟩ : ∃ E, min 45 (sn - 45 * k) = E := ⟨_, rfl⟩
      have hE1 : 1 ≤ E ∧ E ≤ 45 ∧ 45 * k + E ≤ sn := by omega
      have hy := hY k
      have HY := Go.Lib.hid hy
      clear hrb0 hY hy hE
      have hsc : ¬ sc = 45 * k := by omega
      have hwA : IntKind.i64.wrap (45 * (k : Int) + (E : Int)) = 45 * (k : Int) + (E : Int) := IntWalk.i64_in _ ⟨by omega, by omega⟩
      have hA0 : (0 : Int) ≤ 45 * (k : Int) + (E : Int) := by omega
      have hAc : 45 * (k : Int) + (E : Int) ≤ (sc : Int) := by omega
      have hAT : (45 * (k : Int) + (E : Int)).toNat = 45 * k + E := by omega
      have hAm : max (45 * (k : Int) + (E : Int)) 0 = 45 * (k : Int) + (E : Int) := by omega
      have hAk : 45 * (k : Int) ≤ 45 * (k : Int) + (E : Int) := by omega
      have hAne : ¬ 45 * k + E = 45 * k := by omega
      have hAs : 45 * k + E - 45 * k = E := by omega
      gi_wp2_with fail
      refine wpIn_wide.2 ?_
      refine NB.wp_region_m (by kernel_rfl) ?_
      have hJd := hJd0 k wr hJ
      generalize wr.drew = u at *
      obtain ⟨cs, cn, hrb⟩ := hJc _ _ hJd
      refine NB.any_r 0 rfl (by kernel_rfl) rfl _ (fun w' hw' => NB.run_op_load rfl rfl Try.underlying3 rfl (cn) hw') (fun K hK => ?_); go_simp; refine hK _ ?_; clear hK K
      refine NB.any_r 1 rfl (by kernel_rfl) rfl _ (fun w' hw' => NB.run_op_load rfl rfl Try.underlying22 rfl (cs) hw') (fun K hK => ?_); go_simp; refine hK _ ?_; clear hK K
      refine NB.any_p 2 rfl (by kernel_rfl) (fun K hK => ?_); go_simp; refine hK _ ?_; clear hK K
      refine NB.any_p 3 rfl (by kernel_rfl) (fun K hK => ?_); go_simp; refine hK _ ?_; clear hK K
      refine NB.any_p 4 rfl (by kernel_rfl) (fun K hK => ?_); go_simp; refine hK _ ?_; clear hK K
      refine NB.any_p 5 rfl (by kernel_rfl) (fun K hK => ?_); go_simp; refine hK _ ?_; clear hK K
      refine NB.any_p 6 rfl (by kernel_rfl) (fun K hK => ?_); go_simp; refine hK _ ?_; clear hK K
      refine NB.any_end (by kernel_rfl) ?_
      have hite : (if ((sn - 45 * k : Nat) : Int) < 45 then ((sn - 45 * k : Nat) : Int) else 45) = (E : Int) := by split <;> omega
      rw [hite]
      obtain ⟨fn, tmps, assign, body, hy, hR⟩ := HY.out u g o hJd hlt rfl
      rw [hEe] at hy
      have HYY := Go.Lib.hid hy
      have HRR := Go.Lib.hid hR
      have HJC := Go.Lib.hid hJc
      clear hy hR HY hite hJc
      gi_wp2_with fail
      rw [HYY.out, Oper.uponIn_round]
      refine ⟨fun _ => hm, HRR.out.mono ?_⟩
      rintro e W3 ⟨rfl, hJ3⟩
      obtain ⟨cs3, cn3, _⟩ := HJC.out _ _ hJ3
      have hw45 : IntKind.i64.wrap (45 * (k : Int) + 45) = 45 * (k : Int) + 45 := IntWalk.i64_in _ ⟨by omega, by omega⟩
      clear cs cn cs0 cn0
      gi_wp2_with fail
      go_roundw
      case rel => exact ⟨k + 1, by first | go_num | (congr 1; done) | (congr 1; omega), hJ3, .inr (by simpa using hlt)⟩
      case measure => simp [intOf]; omega
    · have hki : ¬ 45 * (k : Int) < (sn : Int) := by omega
      gi_wp2_with fail
      go_end0
      exact ⟨⟨_, rfl⟩, k, hJ, by omega, hk0⟩

/-- The pieces' slices. -/
def pcs (sa : Option Addr) (b : List UInt8) (k : Nat) : List Itm := (List.range k).map fun i => ⟨sa.map fun x => x.add (45 * i), (piece b i).length, piece b i⟩
theorem pcs_len (sa : Option Addr) (b : List UInt8) (k : Nat) : (pcs sa b k).length = k := by simp [pcs]
theorem pcs_snoc (sa : Option Addr) (b : List UInt8) (k : Nat) : pcs sa b (k + 1) = pcs sa b k ++ [⟨sa.map fun x => x.add (45 * k), (piece b k).length, piece b k⟩] := by simp [pcs, List.range_succ]
theorem pcs_rd {w : World} {sa : Option Addr} {sn sc : Nat} {b : List UInt8} (h : NB.RdB w sa sn sc b) (k : Nat) (hk : k = 0 ∨ 45 * (k - 1) < sn) : ∀ x ∈ pcs sa b k, NB.RdB w x.a x.b.length x.c x.b := by
  intro x hx
  obtain ⟨i, hi, rfl⟩ := List.mem_map.1 hx
  have hik := List.mem_range.1 hi
  have hsz := NB.RdB.size h
  have hpl : (piece b i).length = min 45 (sn - 45 * i) := by unfold piece; rw [List.length_take, List.length_drop, hsz]
  have h1 := NB.rdB_tail (rdB_front h (45 * i + (piece b i).length) (by omega)) (45 * i) (by omega)
  rw [if_neg (by omega), show 45 * i + (piece b i).length - 45 * i = (piece b i).length by omega, List.drop_take, show 45 * i + (piece b i).length - 45 * i = (piece b i).length by omega] at h1
  have e : (b.drop (45 * i)).take (piece b i).length = piece b i := by
    unfold piece
    rw [List.length_take, List.take_eq_take_iff]
    omega
  rw [e] at h1
  exact h1

structure SeqJ {w1 : World} {fn : FuncId} {a : Act} {ps : Array Tmp} {assign body : Code} (L : Lp w1 fn a ps assign body) (w : World) (sa : Option Addr) (b : List UInt8) (k : Nat) (W : World) : Prop where
  bk : NB.Bk L .ready W
  bel : Below w.heap.size w W
  v : ∃ v, Rw W w.heap.size [v] 44 ∧ W.ownsRow (w.heap.size + 3) 22 1 v k (itV (pcs sa b k))
theorem SeqJ.below {w1 : World} {fn : FuncId} {a : Act} {ps : Array Tmp} {assign body : Code} {L : Lp w1 fn a ps assign body} {w : World} {sa : Option Addr} {b : List UInt8} {k : Nat} {W W' : World} (h : SeqJ L w sa b k W) (hb : Below W.heap.size W W') : SeqJ L w sa b k W' := by
  obtain ⟨v, h1, h2⟩ := h.v
  exact ⟨h.bk.below hb, NB.bel h.bel hb h.bel.size, v, h1.below hb, NB.own_keep h2 hb⟩
def PcsE (w : World) (sa : Option Addr) (b : List UInt8) (sn : Nat) (e : Ending) (w' : World) : Prop :=
  ∃ v k, e = .returned v ∧ w'.ownsRow w.heap.size 22 1 v k (itV (pcs sa b k)) ∧ sn ≤ 45 * k ∧ (k = 0 ∨ 45 * (k - 1) < sn) ∧ Below w.heap.size w w'

set_option maxHeartbeats 2000000 in
theorem appseq_any (w : World) (bs bn : Nat) (sa : Option Addr) (sn sc : Nat) (b : List UInt8) (hr : NB.RdB w sa sn sc b) (hsn : sn ≤ 1000000) (hbs : w.cell? ⟨bs, 0, none⟩ = some (.slice sa sn sc)) (hbn : w.cell? ⟨bn, 0, none⟩ = some (.int .i64 45)) :
    Calls Try.prog 68 #[.slice none 0 0, .func (.func 69) #[] #[.pointer (some ⟨bs, 0, none⟩), .pointer (some ⟨bn, 0, none⟩)]] w (PcsE w sa b sn) := by
  refine (callsIn_wide (n := 6)).1 ?_
  refine callsIn_of_wp_marks Try.func68 rfl trivial ?_ rfl
  simp only [Try.ntmps68, List.size_toArray, List.length_cons, List.length_nil, Nat.reduceAdd, Nat.reduceSub, Array.replicate_succ, Array.replicate_zero, List.push_toArray, List.append_toArray, List.nil_append, List.cons_append]
  have rowO := NB.rw_new w [.slice none 0 0] 44 rfl
  have B1 := oneB w (.cells #[.slice none 0 0] 44)
  have hsz1 : (w.alloc (.cells #[.slice none 0 0] 44)).heap.size = w.heap.size + 1 := by simp
  simp only [List.toArray] at rowO
  have HR := Go.Lib.hid hr; clear hr
  gi_wp2_with fail
  generalize w.alloc (.cells #[.slice none 0 0] 44) = w1 at *
  have h33 := enters_of Try.func69 (by kernel_rfl) rfl
  have hltS := World.block_lt_of_cell? w _ hbs
  have hltN := World.block_lt_of_cell? w _ hbn
  have hsz := NB.RdB.size HR.out
  refine NB.range_told rfl (by omega) (gf := 69) (lb := #[.pointer (some ⟨bs, 0, none⟩), .pointer (some ⟨bn, 0, none⟩)]) rfl trivial h33
    (fun W' => ∃ k v, (∀ xs t f, W'.heap[w1.heap.size + 1]? ≠ some (.cells xs t f)) ∧ (∀ xs t f, W'.heap[w1.heap.size]? ≠ some (.cells xs t f)) ∧ Rw W' w.heap.size [v] 44 ∧ W'.ownsRow (w.heap.size + 3) 22 1 v k (itV (pcs sa b k)) ∧ sn ≤ 45 * k ∧ (k = 0 ∨ 45 * (k - 1) < sn) ∧ Below w.heap.size w W') ?hit ?hdone
  case hit =>
    intro fn hfn L W1 hB1 hb1 hs1
    have hb1' : Below w.heap.size w W1 := NB.bel B1 hb1 B1.size
    refine (chunk1_in _ (by omega) (w1.heap.size + 1) bs bn sa sn sc b hsn (fun k W => SeqJ L w sa b k W)
      (fun k W h => ⟨(Below.cell h.bel hltS).trans hbs, (Below.cell h.bel hltN).trans hbn, Rd.below HR.out h.bel⟩) (fun k W h => h.below (dB W)) ?_ W1
      ⟨hB1, hb1', _, rowO.below hb1, World.ownsRow_nil _ _ _ _⟩).mono ?_
    · intro k W g o hJ hlt hsa
      subst hsa
      refine (NB.yield_told L hfn rfl hJ.bk (R := fun W' => SeqJ L w (some ⟨g, o, none⟩) b (k + 1) W') ?_).mono (fun e W' h => ⟨h.1, h.2.2⟩)
      have hno : ∀ xs t f, W.heap[w1.heap.size + 1]? ≠ some (.cells xs t f) := fun xs t f e => by rw [hJ.bk.lp] at e; cases e
      obtain ⟨v, hv, hown⟩ := hJ.v
      have hB2 := hJ.bk.turn .busy
      have HBK := Go.Lib.hid hJ.bk
      have hkp := NB.kp_put W (w1.heap.size + 1) (.loop (L.at_ .busy none))
      have hv2 := hv.keep hkp (by omega)
      have bel2 := hJ.bel.trans (hkp.belowB hJ.bel.size (by rintro k rfl; omega))
      have hown2 := hkp.own hown (fun i e hi => by
        subst hi
        rcases hown.2 with ⟨hve, _⟩ | ⟨g', cap, cur, rfl, _, hg', _⟩
        · rw [hve] at e; cases e
        · cases e; exact hno _ _ _ hg')
      have hgo := hown2.lt
      clear hJ hv hown hkp hno
      gi_wp2_with fail
      refine ⟨HBK.out, ?_⟩
      rw [hsz1] at hB2 hv2 bel2 hown2 hgo
      generalize W.putObj (w.heap.size + 1 + 1) (.loop (L.at_ .busy none)) = W2 at *
      obtain ⟨c0, f0⟩ := NB.rw1 hv2
      have hkl : k ≤ 100000 := by omega
      gi_wp2_with (gi_at_builtin; refine NB.wpListIn_append_at rfl (.tmp 8) (.tmp 10) 44 rfl (w.heap.size + 3) slTL v k (itV (pcs (some ⟨g, o, none⟩) b k)) rfl (NB.own_keep hown2 (oneB _ _)) ⟨W2.heap.size, 0, none⟩ 1 1 [.slice (some ⟨g, o + 45 * k, none⟩) (min 45 (sn - 45 * k)) (min 45 (sn - 45 * k))] rfl (NB.rd_new W2 #[.slice (some ⟨g, o + 45 * k, none⟩) (min 45 (sn - 45 * k)) (min 45 (sn - 45 * k))] 22 1 rfl (by unfold maxLen; omega) rfl) (by omega) (by simp [Value.oneCell']) (by omega) (by unfold maxLen; omega) (by have := bel2.size; have := hB2.lt; simp; omega) ?_)
      intro v' w' ho hg hvb
      have hkA : Kp (fun k => v.ownBlock = some k) W2 w' := ((Kp.refl _ W2).alloc _).grown hg (fun k h => .inl h)
      have hn : ∀ g, g < w.heap.size + 3 → ¬ v.ownBlock = some g := fun g hg' e => by have := (hgo g e).1; omega
      have hO := hv2.keep hkA (hn _ (by omega))
      have hk5 : Kp (fun i => i = w.heap.size ∨ v.ownBlock = some i) W2 (w'.setCell ⟨w.heap.size, 0, none⟩ v') := (hkA.imp (fun i h => .inr h)).setCell (.inl (.inl rfl)) _
      have hk6 : Kp (fun i => i = w.heap.size) w' (w'.setCell ⟨w.heap.size, 0, none⟩ v') := (Kp.refl (fun i => i = w.heap.size) w').setCell (x := ⟨w.heap.size, 0, none⟩) (.inl rfl) _
      have hB5 := hB2.kp hk5 (by rintro (h | h); omega; exact hn _ (by omega) h) (by rintro (h | h); omega; exact hn _ (by omega) h)
      have bel5 : Below w.heap.size w (w'.setCell ⟨w.heap.size, 0, none⟩ v') := bel2.trans (hk5.belowB bel2.size (by rintro i (h | h); omega; have := (hgo i h).1; omega))
      have hO5 := hO.set 0 v'
      have hvg : ∀ i, v'.ownBlock = some i → w.heap.size + 3 ≤ i := fun i hi => by
        rcases hvb i hi with h | h
        · exact (hgo i h).1
        · have := bel2.size; have := hB2.lt; omega
      have ho5 := hk6.own ho (fun i e hi => by have := hvg i e; omega)
      have hpl : (piece b k).length = min 45 (sn - 45 * k) := by unfold piece; rw [List.length_take, List.length_drop, hsz]
      have hit : itV (pcs (some ⟨g, o, none⟩) b k) ++ [.slice (some ⟨g, o + 45 * k, none⟩) (min 45 (sn - 45 * k)) (min 45 (sn - 45 * k))] = itV (pcs (some ⟨g, o, none⟩) b (k + 1)) := by
        rw [pcs_snoc, ← hpl]
        unfold itV
        rw [List.map_append]
        simp only [List.map_cons, List.map_nil, Option.map_some, NB.addr_add]
      rw [hit] at ho5
      have hno5 : ∀ xs t f, (w'.setCell ⟨w.heap.size, 0, none⟩ v').heap[w1.heap.size + 1]? ≠ some (.cells xs t f) := fun xs t f e => by rw [hB5.lp] at e; cases e
      have hkq := NB.kp_put (w'.setCell ⟨w.heap.size, 0, none⟩ v') (w1.heap.size + 1) (.loop (L.at_ .ready none))
      have FIN : NB.Bk L .busy (w'.setCell ⟨w.heap.size, 0, none⟩ v') ∧ SeqJ L w (some ⟨g, o, none⟩) b (k + 1) ((w'.setCell ⟨w.heap.size, 0, none⟩ v').putObj (w1.heap.size + 1) (.loop (L.at_ .ready none))) :=
        ⟨hB5, hB5.turn _, bel5.trans (hkq.belowB bel5.size (by rintro i rfl; omega)), v', hO5.keep hkq (by omega), hkq.own ho5 (fun i e hi => by
          subst hi
          rcases ho5.2 with ⟨hve, _⟩ | ⟨g', cap, cur, rfl, _, hg', _⟩
          · rw [hve] at e; cases e
          · cases e; exact hno5 _ _ _ hg')⟩
      rw [hsz1] at FIN
      have HFIN := Go.Lib.hid FIN
      obtain ⟨co1, fo1⟩ := NB.rw1 hO
      obtain ⟨a', c', rfl, _⟩ := NB.rd_of_own ho
      clear FIN hk5 hk6 hB5 bel5 hO5 ho5 hno5 hkq hit hvg hn hkA ho hg hvb hO hB2 hv2 bel2 hown2 hgo HBK
      gi_wp2_with fail
      simpa using HFIN.out
    · rintro e W' ⟨he, k, hJ, hk1, hk2⟩
      obtain ⟨v, hv, ho⟩ := hJ.v
      exact ⟨he, hJ.bk, k, v, (fun xs t f e => by rw [hJ.bk.lp] at e; cases e), (fun xs t f e => by rw [hJ.bk.dfd] at e; cases e), hv, ho, hk1, hk2, hJ.bel⟩
  case hdone =>
    rintro W' o ⟨k, v, hno1, hno0, hv, ho, hk1, hk2, hbel⟩ hT hd
    have hkp := NB.kp_put W' (w1.heap.size + 1) o
    have own_put : ∀ {X : World} (r : Nat) (ob : Obj), (∀ xs t f, X.heap[r]? ≠ some (.cells xs t f)) → X.ownsRow (w.heap.size + 3) 22 1 v k (itV (pcs sa b k)) → (X.putObj r ob).ownsRow (w.heap.size + 3) 22 1 v k (itV (pcs sa b k)) := fun r ob hno ho => (NB.kp_put _ r ob).own ho (fun i e hi => by
      subst hi
      rcases ho.2 with ⟨hve, _⟩ | ⟨g', cap, cur, rfl, _, hg', _⟩
      · rw [hve] at e; cases e
      · cases e; exact hno _ _ _ hg')
    have hv1 := hv.keep hkp (by omega)
    have ho1 := own_put _ o hno1 ho
    have hbel1 : Below w.heap.size w (W'.putObj (w1.heap.size + 1) o) := hbel.trans (hkp.belowB hbel.size (by rintro k rfl; omega))
    have hd1 : (W'.putObj (w1.heap.size + 1) o).heap[w1.heap.size]? = some (.deferred (some [])) := (World.putObj_heap_other (by omega)).trans hd
    clear hno1 hno0 hv ho hbel hd hkp
    generalize W'.putObj (w1.heap.size + 1) o = W4 at *
    have hno0 : ∀ xs t f, W4.heap[w1.heap.size]? ≠ some (.cells xs t f) := fun xs t f e => by rw [hd1] at e; cases e
    have ho5 := own_put _ (.deferred none) hno0 ho1
    have hbel5 : Below w.heap.size w (W4.putObj (w1.heap.size) (.deferred none)) := hbel1.trans ((NB.kp_put W4 _ _).belowB hbel1.size (by rintro k rfl; omega))
    obtain ⟨c0, f0⟩ := NB.rw1 hv1
    have FIN : PcsE w sa b sn (.returned v) (W4.putObj (w1.heap.size) (.deferred none)) :=
      ⟨v, k, rfl, NB.own_mono ho5 (by omega), hk1, hk2, hbel5⟩
    rw [hsz1] at FIN hd1
    have HF := Go.Lib.hid FIN; have HD := Go.Lib.hid hd1
    clear FIN hd1 ho5 hv1 ho1 hbel5 hbel1 hno0 hk1 hk2 rowO B1 h33
    gi_wp2_with fail
    refine ⟨by simp, .inl ⟨_, _, rfl, run_takeDeferred HD.out, ?_⟩⟩
    refine ⟨_, results_tmp rfl _ _ _, ?_⟩
    exact HF.out
end Go.Proofs.Ytjfidhjnbcmhfaa
namespace Go.Proofs.Ytjfidhjnbcmhfaa
open Go.RowKit Go.Shelf
open Go.NB (Rd Dk Kp Stp Off Dis val oneB dB Rw MapI KeyI I64)

set_option maxHeartbeats 400000 in
theorem collect_any (w : World) (bs bn : Nat) (sa : Option Addr) (sn sc : Nat) (b : List UInt8) (hr : NB.RdB w sa sn sc b) (hsn : sn ≤ 1000000) (hbs : w.cell? ⟨bs, 0, none⟩ = some (.slice sa sn sc)) (hbn : w.cell? ⟨bn, 0, none⟩ = some (.int .i64 45)) :
    Calls Try.prog 57 #[.func (.func 69) #[] #[.pointer (some ⟨bs, 0, none⟩), .pointer (some ⟨bn, 0, none⟩)]] w (PcsE w sa b sn) := by
  have ct := appseq_any w bs bn sa sn sc b hr hsn hbs hbn
  go_enter Try.func57, Try.ntmps57
  go_wp2_with fail
  refine ct.mono ?_
  rintro e w' ⟨v, k, rfl, ho, h1, h2, hb⟩
  obtain ⟨a, c, rfl, _⟩ := NB.rd_of_own ho
  go_wp2_with fail
  go_ret
  exact ⟨_, k, rfl, ho, h1, h2, hb⟩

section
variable {w w' : World} {base q p : Nat} {v v' : Value} {its : List Itm} {S : Sg} {o : Obj} {x : Itm} {n : Nat}
theorem IsSg.app (h : IsSg w base q p v its S) (hg : (w.alloc o).grownBy w' v.ownBlock) (ho : w'.ownsRow base 22 1 v' (its.length + 1) (itV its ++ [.slice x.a x.b.length x.c])) (hvb : ∀ k, v'.ownBlock = some k → v.ownBlock = some k ∨ (w.alloc o).heap.size ≤ k)
    (hx : NB.RdB w x.a x.b.length x.c x.b) (hlo : ∀ b o, x.a = some ⟨b, o, none⟩ → x.b ≠ [] → base ≤ b ∧ b ≠ q ∧ v.ownBlock ≠ some b) (hn : S.used + n ≤ S.n) (h1 : 1 ≤ n) :
    IsSg ((w'.setCell ⟨q, 4, none⟩ v').setCell ⟨q, 5, none⟩ (.int .i64 ((S.used + n : Nat) : Int))) base q p v' (its ++ [x]) { S with l := S.l ++ [x.b], used := S.used + n }
    ∧ Kp (fun k => k = q ∨ v.ownBlock = some k) w ((w'.setCell ⟨q, 4, none⟩ v').setCell ⟨q, 5, none⟩ (.int .i64 ((S.used + n : Nat) : Int))) := by
  have hkA : Kp (fun k => v.ownBlock = some k) w w' := ((Kp.refl _ w).alloc o).grown hg (fun k h => .inl h)
  have hk : Kp (fun k => k = q ∨ v.ownBlock = some k) w ((w'.setCell ⟨q, 4, none⟩ v').setCell ⟨q, 5, none⟩ (.int .i64 ((S.used + n : Nat) : Int))) :=
    ((hkA.imp (fun k h => .inr h)).setCell (x := ⟨q, 4, none⟩) (.inl (.inl rfl)) _).setCell (x := ⟨q, 5, none⟩) (.inl (.inl rfl)) _
  have hk2 : Kp (fun k => k = q) w' ((w'.setCell ⟨q, 4, none⟩ v').setCell ⟨q, 5, none⟩ (.int .i64 ((S.used + n : Nat) : Int))) :=
    ((Kp.refl (fun k => k = q) w').setCell (x := ⟨q, 4, none⟩) (.inl rfl) _).setCell (x := ⟨q, 5, none⟩) (.inl rfl) _
  have hqlt := h.row.lt
  have hrow := ((h.row.keep hkA h.qo).set 4 v').set 5 (.int .i64 ((S.used + n : Nat) : Int))
  have hno : ∀ b, b < w.heap.size → v.ownBlock ≠ some b → v'.ownBlock ≠ some b := fun b hb hv e => by
    rcases hvb b e with h3 | h3
    · exact hv h3
    · simp at h3; omega
  refine ⟨{ row := hrow, own := ?_, rd := ?_, lo := ?_, l := ?_, ge := h.ge, qo := hno q hqlt h.qo, frm := h.frm, n := h.n, used := hn, len := ?_, epoch := h.epoch, sure := ?_, gone := h.gone }, hk⟩
  · have := hk2.own ho (fun k e hkq => by subst hkq; exact hno _ hqlt h.qo e)
    rw [List.length_append, List.length_singleton]
    have e : itV (its ++ [x]) = itV its ++ [.slice x.a x.b.length x.c] := by simp [itV]
    rw [e]
    exact this
  · intro y hy
    rcases List.mem_append.1 hy with hy | hy
    · refine hk.rdB (h.rd y hy) fun b o e hb => ?_
      obtain ⟨_, h4, h5⟩ := h.lo y hy b o e hb
      rintro (h6 | h6)
      · exact h4 h6
      · exact h5 h6
    · obtain rfl : y = x := by simpa using hy
      refine hk.rdB hx fun b o e hb => ?_
      obtain ⟨_, h4, h5⟩ := hlo b o e hb
      rintro (h6 | h6)
      · exact h4 h6
      · exact h5 h6
  · intro y hy b o e hb
    rcases List.mem_append.1 hy with hy | hy
    · obtain ⟨h3, h4, h5⟩ := h.lo y hy b o e hb
      exact ⟨h3, h4, hno b (Rd.lt (h.rd y hy) b o e (by intro e2; rw [List.map_eq_nil_iff] at e2; exact hb e2)) h5⟩
    · obtain rfl : y = x := by simpa using hy
      obtain ⟨h3, h4, h5⟩ := hlo b o e hb
      exact ⟨h3, h4, hno b (Rd.lt hx b o e (by intro e2; rw [List.map_eq_nil_iff] at e2; exact hb e2)) h5⟩
  · rw [List.map_append, h.l]; rfl
  · have := h.len; simp only [List.length_append, List.length_singleton]; omega
  · have := h.sure; simp only [List.length_append, List.length_singleton]; omega
end

/-- A record that is found: how long, and how many parts. -/
theorem gath_len {R : List (List UInt8)} {at_ : Nat} {f : Bk} : ∀ (n i : Nat) (b : List UInt8), gath R at_ f n i = some b → b.length ≤ 45 * n
  | 0, i, b, h => by simp only [gath, Option.some.injEq] at h; subst h; simp
  | n + 1, i, b, h => by
    unfold gath at h
    cases hx : lk R (at_ + i) with
    | none => rw [hx] at h; cases h
    | some x =>
      rw [hx] at h
      simp only at h
      split at h
      · cases h
      · split at h
        · cases h
        · cases hg : gath R at_ f n (i + 1) with
          | none => rw [hg] at h; cases h
          | some t =>
            rw [hg] at h
            simp only [Option.map_some, Option.some.injEq] at h
            subst h
            have h1 := gath_len n (i + 1) t hg
            have h2 := lk_len hx
            rw [List.length_append]
            omega
theorem openLoop_more (R : List (List UInt8)) (k : Nat) (l : List (List UInt8)) (u ep pn x : Nat) (b : List UInt8) (h : recordM R u l.length ep = some (b, pn, x)) : openLoop R (k + 1) l u ep = openLoop R k (l ++ [b]) (u + pn) x := by
  rw [openLoop, h]
theorem openLoop_last (R : List (List UInt8)) (k : Nat) (l : List (List UInt8)) (u ep : Nat) (h : recordM R u l.length ep = none) : openLoop R k l u ep = (l, u) := by
  cases k with
  | zero => rfl
  | succ k => rw [openLoop, h]
end Go.Proofs.Ytjfidhjnbcmhfaa
