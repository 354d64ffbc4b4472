/- A record out of a region's map. Walked. -/
import Derived.Test.YtmgkaoenjnnlmaaSgd
import Derived.Test.YtmgkaoenjnnlmaaTail
import Derived.Deep.Cut
import Derived.Test.YtmgkaoenjnnlmaaOpen
namespace Go.Proofs.Ytmgkaoenjnnlmaa
open Go.RowKit
open Go.NB (Rd Dk Kp Stp Off Dis val oneB dB Rw MapI KeyI I64)

def RecS (w : World) (r : Option (List UInt8 × Nat × Nat)) (e : Ending) (w' : World) : Prop :=
  match r with
  | none => e = .returned (.tuple #[.slice none 0 0, .int .u64 0, .bool false]) ∧ Below w.heap.size w w'
  | some (b, _, x) => ∃ v, e = .returned (.tuple #[v, .int .u64 (x : Int), .bool true]) ∧ NB.OwnB w' w.heap.size 5 v b ∧ Below w.heap.size w w'
theorem recS_none {w w' : World} {e : Ending} {r : Option (List UInt8 × Nat × Nat)} (hr : r = none) (he : e = .returned (.tuple #[.slice none 0 0, .int .u64 0, .bool false])) (hb : Below w.heap.size w w') : RecS w r e w' := by
  subst hr; exact ⟨he, hb⟩
theorem lk_len {R : List (List UInt8)} {i : Nat} {y : Bk} (h : lk R i = some y) : y.bs.length ≤ 45 := by
  unfold lk at h
  cases hr : R[i]? with
  | none => rw [hr] at h; cases h
  | some b =>
    rw [hr, Option.bind_some] at h
    unfold readB at h
    split at h
    · injection h with h
      rw [← h]
      simp only [bkOf, List.length_take]
      omega
    · cases h
theorem gath_none {R : List (List UInt8)} {u i n : Nat} {f : Bk} (h : lk R (u + i) = none) : gath R u f (n + 1) i = none := by rw [gath, h]
theorem gath_bad {R : List (List UInt8)} {u i n : Nat} {f y : Bk} (h : lk R (u + i) = some y) (hb : y.pl ≠ f.pl ∨ y.ep ≠ f.ep ∨ y.pt ≠ i ∨ y.pn ≠ f.pn) : gath R u f (n + 1) i = none := by
  rw [gath, h]; simp only; rw [if_pos hb]
theorem gath_short {R : List (List UInt8)} {u i n : Nat} {f y : Bk} (h : lk R (u + i) = some y) (hb : ¬ (y.pl ≠ f.pl ∨ y.ep ≠ f.ep ∨ y.pt ≠ i ∨ y.pn ≠ f.pn)) (hs : (i + 1 < f.pn ∧ y.bs.length < 45) ∨ (i + 1 = f.pn ∧ y.bs.length = 0 ∧ 0 < i)) : gath R u f (n + 1) i = none := by
  rw [gath, h]; simp only; rw [if_neg hb, if_pos hs]
theorem gath_go {R : List (List UInt8)} {u i n : Nat} {f y : Bk} (h : lk R (u + i) = some y) (hb : ¬ (y.pl ≠ f.pl ∨ y.ep ≠ f.ep ∨ y.pt ≠ i ∨ y.pn ≠ f.pn)) (hs : ¬ ((i + 1 < f.pn ∧ y.bs.length < 45) ∨ (i + 1 = f.pn ∧ y.bs.length = 0 ∧ 0 < i))) : gath R u f (n + 1) i = (gath R u f n (i + 1)).map (y.bs ++ ·) := by
  rw [gath, h]; simp only; rw [if_neg hb, if_neg hs]
theorem neI {x y : Nat} (h : x ≠ y) : ((x : Int) != (y : Int)) = true := by
  have : ((x : Int) == (y : Int)) = false := by rw [beq_eq_false_iff_ne]; omega
  simp [bne, this]
theorem eqI {x y : Nat} (h : x = y) : ((x : Int) != (y : Int)) = false := by subst h; simp [bne]

set_option maxRecDepth 100000 in
set_option maxHeartbeats 4000000 in
theorem record_any (w : World) (bm m : Nat) (R : List (List UInt8)) (at_ place ep : Nat) (h : MapK w bm m R R.length) (hRn : R.length ≤ 65536) (hat : at_ ≤ R.length) (hp : place ≤ 65536) (hep : ep < 18446744073709551616) :
    Calls Try.prog 37 #[.map (some bm), .int .i64 (at_ : Int), .int .u64 (place : Int), .int .u64 (ep : Int)] w (RecS w (recordM R at_ place ep)) := by
  obtain ⟨f, hf, hfl⟩ := h
  have hfk : ∀ i : Nat, BlkF w (f (i : Int)) (lk R i) := fun i => by
    have := hfl i
    by_cases hi : i < R.length
    · rwa [if_pos hi] at this
    · rw [if_neg hi] at this
      have e : lk R i = none := by unfold lk; rw [List.getElem?_eq_none (by omega)]; rfl
      rwa [e]
  clear hfl
  have HFK := Go.Lib.hid hfk
  have hwa := i64_nat (k := at_) (by omega)
  have h0 := hfk at_
  cases hl : lk R at_ with
  | none =>
    have hrec : recordM R at_ place ep = none := by unfold recordM; rw [hl]
    rw [hrec]
    rw [hl] at h0
    have h0' : f (at_ : Int) = none := h0
    have hlook := NB.look_i keyB Try.underlying79 hf hwa
    rw [h0'] at hlook
    simp only [Option.getD_none, Option.isSome_none] at hlook
    clear hfk h0 hf HFK h0' hl hrec
    go_enter Try.func37, Try.ntmps37
    go_wp2_with fail
    go_step3
    go_wp2_with (refine NB.wpList_store_agg_any rfl 87 (.tmp 11) (.tmp 22) rfl rfl w.heap.size 0 _ rfl rfl 87 _ (heap_alloc_new w _) (by kernel_rfl) (by simp) (by simp [Value.oneCell']) _ (NB.splice_all _ _ (by simp)) ?_; intro w5 hg5 hr5 hs5; have hR5 : Rw w5 w.heap.size _ 87 := hr5; obtain ⟨d0, d1, d2, d3, d4, _⟩ := NB.rw5 hR5; have hbn := new_below hg5; clear hg5 hr5 hs5)
    go_ret3
    exact recS_none rfl rfl (NB.bel (Below.refl _ _) hbn (Nat.le_refl _))
  | some x =>
    rw [hl] at h0
    obtain ⟨a0, n0, c0, h0', hb0⟩ := h0
    unfold blkV at h0'
    have hwp : IntKind.u64.wrap ((place : Int) + 1) = (place : Int) + 1 := by rw [IntKind.wrap_u64]; omega
    have hlook := NB.look_i keyB Try.underlying79 hf hwa
    rw [h0'] at hlook
    simp only [Option.getD_some, Option.isSome_some] at hlook
    have HF := Go.Lib.hid hf
    have hbm := hf.lt
    have HL := Go.Lib.hid hl
    obtain ⟨xe, xl, xt, xn, xb⟩ := x
    simp only at hlook hb0
    clear hfk hf h0' hl hwa
    go_enter Try.func37, Try.ntmps37
    go_wp2_with fail
    go_step3
    go_upto_region 2 with (refine NB.wpList_store_agg_any rfl 87 (.tmp 11) (.tmp 22) rfl rfl w.heap.size 0 _ rfl rfl 87 _ (heap_alloc_new w _) (by kernel_rfl) (by simp) (by simp [Value.oneCell']) _ (NB.splice_all _ _ (by simp)) ?_; intro w5 hg5 hr5 hs5; have hR5 : Rw w5 w.heap.size _ 87 := hr5; obtain ⟨d0, d1, d2, d3, d4, _⟩ := NB.rw5 hR5; have hbn := new_below hg5; clear hg5 hr5 hs5)
    have B5 : Below w.heap.size w w5 := hbn
    have hlt5 : w.heap.size < w5.heap.size := hR5.lt
    by_cases p1 : xl = place + 1
    case neg =>
      have hrec : recordM R at_ place ep = none := by unfold recordM; rw [HL.out]; simp only; rw [if_pos (by omega)]
      have q1 : ((xl : Int) != (place : Int) + 1) = true := by have := neI p1; push_cast at this; exact this
      go_wp2_with fail
      go_ret3
      first | exact recS_none hrec rfl B5 | exact recS_none rfl rfl B5
    have q1 : ((xl : Int) != (place : Int) + 1) = false := by have := eqI p1; push_cast at this; exact this
    by_cases p2 : xt = 0
    case neg =>
      have hrec : recordM R at_ place ep = none := by unfold recordM; rw [HL.out]; simp only; rw [if_pos (by omega)]
      have q2 : ((xt : Int) != 0) = true := neI p2
      go_wp2_with fail
      go_ret3
      first | exact recS_none hrec rfl B5 | exact recS_none rfl rfl B5
    have q2 : ((xt : Int) != 0) = false := eqI p2
    by_cases p3 : xn < 1
    case pos =>
      have hrec : recordM R at_ place ep = none := by unfold recordM; rw [HL.out]; simp only; rw [if_pos (by omega)]
      have q3 : (xn : Int) < 1 := by omega
      go_wp2_with fail
      go_ret3
      first | exact recS_none hrec rfl B5 | exact recS_none rfl rfl B5
    have q3 : ¬ (xn : Int) < 1 := by omega
    by_cases p4 : 92 < xn
    case pos =>
      have hrec : recordM R at_ place ep = none := by unfold recordM; rw [HL.out]; simp only; rw [if_pos (by omega)]
      have q4 : (92 : Int) < (xn : Int) := by omega
      go_wp2_with fail
      go_ret3
      first | exact recS_none hrec rfl B5 | exact recS_none rfl rfl B5
    have q4 : ¬ (92 : Int) < (xn : Int) := by omega
    by_cases p5 : xe < ep
    case pos =>
      have hrec : recordM R at_ place ep = none := by unfold recordM; rw [HL.out]; simp only; rw [if_pos (by omega)]
      have q5 : (xe : Int) < (ep : Int) := by omega
      go_wp2_with fail
      go_ret3
      first | exact recS_none hrec rfl B5 | exact recS_none rfl rfl B5
    have q5 : ¬ (xe : Int) < (ep : Int) := by omega
    have hrec : recordM R at_ place ep = (gath R at_ ⟨xe, xl, xt, xn, xb⟩ xn 0).map fun b => (b, xn, xe) := by
      unfold recordM; rw [HL.out]; simp only; rw [if_neg (by omega)]
    have HREC := Go.Lib.hid hrec
    clear hrec
    go_wp2_with fail
    go_step3
    clear q1 q2 q3 q4 q5 hwp hlook
    go_wp2_with fail
    go_loopw [56, 13] (fun i o wr => ∃ (k : Nat) (acc : List UInt8), k < xn ∧ i = .int .i64 (k : Int) ∧ wr.ownsRow (w.heap.size + 1) 5 1 o acc.length (acc.map NB.u8v) ∧ acc.length ≤ 45 * k ∧ gath R at_ ⟨xe, xl, xt, xn, xb⟩ xn 0 = (gath R at_ ⟨xe, xl, xt, xn, xb⟩ (xn - k) k).map (acc ++ ·) ∧ Rw wr w.heap.size [.int .u64 (xe : Int), .int .u64 (xl : Int), .int .i64 (xt : Int), .int .i64 (xn : Int), .slice a0 n0 c0] 87 ∧ Below w.heap.size w wr) (fun i _ _ => xn - (intOf i).toNat)
    case atStart =>
      exact ⟨0, [], by omega, rfl, World.ownsRow_nil _ _ _ _, by simp, by cases gath R at_ ⟨xe, xl, xt, xn, xb⟩ xn 0 <;> simp, hR5, B5⟩
    case round =>
      obtain ⟨k, acc, hk, rfl, hown, hacc, hg, hRw, B⟩ := hrel
      have HG := Go.Lib.hid hg
      clear hg hbn hR5 d0 d1 d2 d3 d4
      have hlt := hRw.lt
      obtain ⟨d0, d1, d2, d3, d4, _⟩ := NB.rw5 hRw
      have hki : (k : Int) < (xn : Int) := by omega
      have hwk : IntKind.i64.wrap ((at_ : Int) + (k : Int)) = (at_ : Int) + (k : Int) := IntWalk.i64_in _ ⟨by omega, by omega⟩
      have hwn : IntKind.i64.wrap ((xn : Int) - 1) = (xn : Int) - 1 := IntWalk.i64_in _ ⟨by omega, by omega⟩
      have hwi : I64 ((at_ : Int) + (k : Int)) := by have := i64_nat (k := at_ + k) (by omega); push_cast at this; exact this
      have hlook := NB.look_i keyB Try.underlying79 (HF.out.keep (B.block bm hbm)) hwi
      have hbk := HFK.out (at_ + k)
      push_cast at hbk
      have hsplit : xn - k = (xn - k - 1) + 1 := by omega
      cases hl : lk R (at_ + k) with
      | none =>
        rw [hl] at hbk
        have hbk' : f ((at_ : Int) + (k : Int)) = none := hbk
        rw [hbk'] at hlook
        simp only [Option.getD_none, Option.isSome_none] at hlook
        have hrec : recordM R at_ place ep = none := by rw [HREC.out, HG.out, hsplit, gath_none hl]; rfl
        clear hbk hbk' HFK HG
        go_upto_region 9 with (refine NB.wpList_store_agg_any rfl 87 (.tmp 15) (.tmp 65) rfl rfl wr.heap.size 0 _ rfl rfl 87 _ (heap_alloc_new wr _) (by kernel_rfl) (by simp) (by simp [Value.oneCell']) _ (NB.splice_all _ _ (by simp)) ?_; intro w7 hg5 hr5 hs5; have hR5 : Rw w7 wr.heap.size _ 87 := hr5; obtain ⟨e0, e1, e2, e3, e4, _⟩ := NB.rw5 hR5; have hbn := new_below hg5; clear hg5 hr5 hs5)
        have B7 := NB.bel B hbn B.size
        have hRw7 := hRw.below hbn
        obtain ⟨f0, f1, f2, f3, f4, _⟩ := NB.rw5 hRw7
        clear hown hRw B d0 d1 d2 d3 d4 hlook hR5 hwk hwi hbn hlt
        go_wp2_with fail
        go_ret3
        first | exact recS_none hrec rfl B7 | exact recS_none rfl rfl B7
      | some y =>
        rw [hl] at hbk
        obtain ⟨a1, n1, c1, hbk', hb1⟩ := hbk
        unfold blkV at hbk'
        rw [hbk'] at hlook
        simp only [Option.getD_some, Option.isSome_some] at hlook
        have HLK := Go.Lib.hid hl
        obtain ⟨ye, yl, yt, yn, yb⟩ := y
        simp only at hlook hb1
        clear hbk' hl HFK
        go_upto_region 9 with (refine NB.wpList_store_agg_any rfl 87 (.tmp 15) (.tmp 65) rfl rfl wr.heap.size 0 _ rfl rfl 87 _ (heap_alloc_new wr _) (by kernel_rfl) (by simp) (by simp [Value.oneCell']) _ (NB.splice_all _ _ (by simp)) ?_; intro w7 hg5 hr5 hs5; have hR5 : Rw w7 wr.heap.size _ 87 := hr5; obtain ⟨e0, e1, e2, e3, e4, _⟩ := NB.rw5 hR5; have hbn := new_below hg5; clear hg5 hr5 hs5)
        have B7 := NB.bel B hbn B.size
        have hown7 := NB.own_keep hown hbn
        have hRw7 := hRw.below hbn
        have hlt7 : w.heap.size < w7.heap.size := hRw7.lt
        have hb7 := Rd.below hb1 B7
        obtain rfl : n1 = yb.length := (NB.RdB.size hb1).symm
        have hbd1 := Rd.bound hb1
        obtain ⟨f0, f1, f2, f3, f4, _⟩ := NB.rw5 hRw7
        have hgo := hown7.lt
        have hyl : yb.length ≤ 45 := lk_len HLK.out
        clear hown hRw B d0 d1 d2 d3 d4 hlook hR5 hwk hwi hbn hlt hb1
        by_cases p6 : yl = xl
        case neg =>
          have hrec : recordM R at_ place ep = none := by rw [HREC.out, HG.out, hsplit, gath_bad HLK.out (.inl p6)]; rfl
          have q6 := neI p6
          go_wp2_with fail
          go_ret3
          first | exact recS_none hrec rfl B7 | exact recS_none rfl rfl B7
        have q6 := eqI p6
        by_cases p7 : ye = xe
        case neg =>
          have hrec : recordM R at_ place ep = none := by rw [HREC.out, HG.out, hsplit, gath_bad HLK.out (.inr (.inl p7))]; rfl
          have q7 := neI p7
          go_wp2_with fail
          go_ret3
          first | exact recS_none hrec rfl B7 | exact recS_none rfl rfl B7
        have q7 := eqI p7
        by_cases p8 : yt = k
        case neg =>
          have hrec : recordM R at_ place ep = none := by rw [HREC.out, HG.out, hsplit, gath_bad HLK.out (.inr (.inr (.inl p8)))]; rfl
          have q8 := neI p8
          go_wp2_with fail
          go_ret3
          first | exact recS_none hrec rfl B7 | exact recS_none rfl rfl B7
        have q8 := eqI p8
        by_cases p9 : yn = xn
        case neg =>
          have hrec : recordM R at_ place ep = none := by rw [HREC.out, HG.out, hsplit, gath_bad HLK.out (.inr (.inr (.inr p9)))]; rfl
          have q9 := neI p9
          go_wp2_with fail
          go_ret3
          first | exact recS_none hrec rfl B7 | exact recS_none rfl rfl B7
        have q9 := eqI p9
        have hgood : ¬ (yl ≠ xl ∨ ye ≠ xe ∨ yt ≠ k ∨ yn ≠ xn) := by omega
        have HGO := Go.Lib.hid hgood
        clear hgood
        by_cases hla : k + 1 = xn
        · have hL : ((k : Int) == (xn : Int) - 1) = true := by rw [beq_iff_eq]; omega
          by_cases hz : yb.length = 0 ∧ 0 < k
          · have hrec : recordM R at_ place ep = none := by rw [HREC.out, HG.out, hsplit, gath_short HLK.out HGO.out (.inr ⟨hla, hz.1, hz.2⟩)]; rfl
            have q10 : ((yb.length : Int) == 0) = true := by rw [beq_iff_eq]; omega
            have q11 : (0 : Int) < (k : Int) := by omega
            go_wp2_with fail
            go_ret3
            first | exact recS_none hrec rfl B7 | exact recS_none rfl rfl B7
          · have hgo2 := gath_go (f := ⟨xe, xl, xt, xn, xb⟩) (n := xn - k - 1) HLK.out HGO.out (show ¬ ((k + 1 < xn ∧ yb.length < 45) ∨ (k + 1 = xn ∧ yb.length = 0 ∧ 0 < k)) by omega)
            have hrec : recordM R at_ place ep = some (acc ++ yb, xn, xe) := by
              rw [HREC.out, HG.out, hsplit, hgo2, show xn - k - 1 = 0 by omega]
              simp [gath]
            have hal : acc.length ≤ 4140 := by omega
            by_cases hz1 : yb.length = 0
            · have q10 : ((yb.length : Int) == 0) = true := by rw [beq_iff_eq]; omega
              have q11 : ¬ (0 : Int) < (k : Int) := by omega
              obtain rfl : yb = [] := List.eq_nil_of_length_eq_zero hz1
              simp only [List.length_nil, List.map_nil, List.append_nil] at *
              go_wp2_with (at_builtin; refine NB.wpList_append_at rfl (.tmp 124) (.tmp 126) 23 rfl (w.heap.size + 1) slTB _ _ (acc.map NB.u8v) rfl hown7 a1 0 c1 [] rfl hb7 (by simp) (by omega) (by unfold maxLen; omega) hlt7 ?_; intro v8 w8 ho8 hg8 hv8)
              have hR8 : Rw w8 w.heap.size _ 87 := (hg8.block _ hlt7 (fun e => by have := (hgo _ e.symm).1; omega)).trans hRw7
              have B8 : Below w.heap.size w w8 := B7.grown hg8 B7.size (fun k' hk' => by have := (hgo k' hk').1; omega)
              refine NB.wp_region_m (by kernel_rfl) ?_
              have hX8 : Rw w8.drew w.heap.size _ 87 := hR8.below (dB _)
              have B9 : Below w.heap.size w w8.drew := B8.drew
              have ho9 := NB.own_keep ho8 (dB w8)
              clear hR8 B8 ho8 hg8
              generalize w8.drew = w9 at *
              obtain ⟨g0, _⟩ := NB.rw5 hX8
              refine NB.any_p 0 rfl (by kernel_rfl) (fun K hK => ?_); go_simp; refine hK _ ?_; clear hK K
              refine NB.any_p 1 rfl (by kernel_rfl) (fun K hK => ?_); go_simp; refine hK _ ?_; clear hK K
              refine NB.any_r 2 rfl (by kernel_rfl) rfl _ (fun w' hw' => NB.run_op_load rfl rfl Try.underlying53 rfl (g0) hw') (fun K hK => ?_); go_simp; refine hK _ ?_; clear hK K
              refine NB.any_p 3 rfl (by kernel_rfl) (fun K hK => ?_); go_simp; refine hK _ ?_; clear hK K
              refine NB.any_p 4 rfl (by kernel_rfl) (fun K hK => ?_); go_simp; refine hK _ ?_; clear hK K
              refine NB.any_p 5 rfl (by kernel_rfl) (fun K hK => ?_); go_simp; refine hK _ ?_; clear hK K
              refine NB.any_end (by kernel_rfl) ?_
              go_wp2_with fail
              go_ret3
              rw [hrec]
              exact ⟨_, rfl, NB.own_mono (by simpa using ho9) (Nat.le_succ _), B9⟩
            · have q10 : ((yb.length : Int) == 0) = false := by rw [beq_eq_false_iff_ne]; omega
              go_wp2_with (at_builtin; refine NB.wpList_append_at rfl (.tmp 124) (.tmp 126) 23 rfl (w.heap.size + 1) slTB _ _ (acc.map NB.u8v) rfl hown7 a1 yb.length c1 (yb.map NB.u8v) rfl hb7 (NB.u8v_one yb) (by omega) (by unfold maxLen; omega) hlt7 ?_; intro v8 w8 ho8 hg8 hv8)
              have hR8 : Rw w8 w.heap.size _ 87 := (hg8.block _ hlt7 (fun e => by have := (hgo _ e.symm).1; omega)).trans hRw7
              have B8 : Below w.heap.size w w8 := B7.grown hg8 B7.size (fun k' hk' => by have := (hgo k' hk').1; omega)
              refine NB.wp_region_m (by kernel_rfl) ?_
              have hX8 : Rw w8.drew w.heap.size _ 87 := hR8.below (dB _)
              have B9 : Below w.heap.size w w8.drew := B8.drew
              have ho9 := NB.own_keep ho8 (dB w8)
              clear hR8 B8 ho8 hg8
              generalize w8.drew = w9 at *
              obtain ⟨g0, _⟩ := NB.rw5 hX8
              refine NB.any_p 0 rfl (by kernel_rfl) (fun K hK => ?_); go_simp; refine hK _ ?_; clear hK K
              refine NB.any_p 1 rfl (by kernel_rfl) (fun K hK => ?_); go_simp; refine hK _ ?_; clear hK K
              refine NB.any_r 2 rfl (by kernel_rfl) rfl _ (fun w' hw' => NB.run_op_load rfl rfl Try.underlying53 rfl (g0) hw') (fun K hK => ?_); go_simp; refine hK _ ?_; clear hK K
              refine NB.any_p 3 rfl (by kernel_rfl) (fun K hK => ?_); go_simp; refine hK _ ?_; clear hK K
              refine NB.any_p 4 rfl (by kernel_rfl) (fun K hK => ?_); go_simp; refine hK _ ?_; clear hK K
              refine NB.any_p 5 rfl (by kernel_rfl) (fun K hK => ?_); go_simp; refine hK _ ?_; clear hK K
              refine NB.any_end (by kernel_rfl) ?_
              go_wp2_with fail
              go_ret3
              rw [hrec]
              exact ⟨_, rfl, NB.own_mono (by simpa using ho9) (Nat.le_succ _), B9⟩
        · have hL : ((k : Int) == (xn : Int) - 1) = false := by rw [beq_eq_false_iff_ne]; omega
          by_cases hs : yb.length < 45
          · have hrec : recordM R at_ place ep = none := by rw [HREC.out, HG.out, hsplit, gath_short HLK.out HGO.out (.inl ⟨by simp only; omega, hs⟩)]; rfl
            have q10 : (yb.length : Int) < 45 := by omega
            go_wp2_with fail
            go_ret3
            first | exact recS_none hrec rfl B7 | exact recS_none rfl rfl B7
          · have hgo2 := gath_go (f := ⟨xe, xl, xt, xn, xb⟩) (n := xn - k - 1) HLK.out HGO.out (show ¬ ((k + 1 < xn ∧ yb.length < 45) ∨ (k + 1 = xn ∧ yb.length = 0 ∧ 0 < k)) by omega)
            have q10 : ¬ (yb.length : Int) < 45 := by omega
            have hal : acc.length ≤ 4140 := by omega
            go_wp2_with (at_builtin; refine NB.wpList_append_at rfl (.tmp 124) (.tmp 126) 23 rfl (w.heap.size + 1) slTB _ _ (acc.map NB.u8v) rfl hown7 a1 yb.length c1 (yb.map NB.u8v) rfl hb7 (NB.u8v_one yb) (by omega) (by unfold maxLen; omega) hlt7 ?_; intro v8 w8 ho8 hg8 hv8)
            have hR8 : Rw w8 w.heap.size _ 87 := (hg8.block _ hlt7 (fun e => by have := (hgo _ e.symm).1; omega)).trans hRw7
            have B8 : Below w.heap.size w w8 := B7.grown hg8 B7.size (fun k' hk' => by have := (hgo k' hk').1; omega)
            refine ⟨⟨k + 1, acc ++ yb, by omega, by go_num, by simpa using ho8, by rw [List.length_append]; omega, ?_, hR8, B8⟩, by simp [intOf]; omega⟩
            rw [HG.out, hsplit, hgo2, show xn - k - 1 = xn - (k + 1) by omega, Option.map_map]
            congr 1
            funext z
            simp
end Go.Proofs.Ytmgkaoenjnnlmaa
