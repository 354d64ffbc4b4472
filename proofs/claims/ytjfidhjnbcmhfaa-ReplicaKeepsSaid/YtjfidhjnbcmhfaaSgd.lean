/- A segment's region, read into a map. Walked. -/
import Derived.Test.YtjfidhjnbcmhfaaSgb
import Derived.Test.YtjfidhjnbcmhfaaMpi
import Derived.Test.YtjfidhjnbcmhfaaSlc
namespace Go.Proofs.Ytjfidhjnbcmhfaa
open Go.RowKit
open Go.NB (Rd Dk Kp Stp Off Dis val oneB dB Rw MapI KeyI I64)

theorem keyB : KeyI Try.prog 3 93 (.agg #[.int .u64 0, .int .u64 0, .int .i64 0, .int .i64 0, .slice none 0 0]) := ⟨Try.underlying3, fun w => by kernel_rfl⟩
theorem i64_nat {k : Nat} (h : k ≤ 9223372036854775807) : I64 (k : Int) := WalkArith.wf_i64 (by omega)

/-- What the map says of a block. -/
def BlkF (w : World) (u : Option Value) (o : Option Bk) : Prop :=
  match o with
  | none => u = none
  | some x => ∃ a n c, u = some (.agg (blkV x a n c).toArray) ∧ NB.RdB w a n c x.bs
theorem BlkF.below {w w' : World} {u : Option Value} {o : Option Bk} (h : BlkF w u o) (hb : Below w.heap.size w w') : BlkF w' u o := by
  cases o with
  | none => exact h
  | some x => obtain ⟨a, n, c, h1, h2⟩ := h; exact ⟨a, n, c, h1, Rd.below h2 hb⟩
/-- The map of a region's first k blocks. -/
def MapK (w : World) (bm m : Nat) (R : List (List UInt8)) (k : Nat) : Prop :=
  ∃ f, MapI Try.prog 3 w bm m f ∧ ∀ i : Nat, BlkF w (f (i : Int)) (if i < k then lk R i else none)
theorem MapK.below {w w' : World} {bm m : Nat} {R : List (List UInt8)} {k : Nat} (h : MapK w bm m R k) (hb : Below w.heap.size w w') : MapK w' bm m R k := by
  obtain ⟨f, h1, h2⟩ := h
  exact ⟨f, h1.keep (hb.block _ h1.lt), fun i => (h2 i).below hb⟩
theorem mapK_new (w : World) (R : List (List UInt8)) : MapK (w.alloc (.map #[] 0)) w.heap.size 0 R 0 :=
  ⟨_, NB.mapI_new w, fun i => by rw [if_neg (by omega)]; rfl⟩

theorem rd_mapped {w w' : World} {bm n m c : Nat} {a : Option Addr} {bs : List UInt8} {f : Int → Option Value} (h : NB.RdB w a n c bs) (hg : w.grownBy w' (some bm)) (hm : MapI Try.prog 3 w bm m f) : NB.RdB w' a n c bs :=
  Rd.keep h fun b o e hn => hg.block b (Rd.lt h b o e hn) fun e2 => by
    injection e2 with e2
    subst e2
    obtain ⟨D, ⟨es, clock, hh, _⟩, _⟩ := hm
    cases hv : bs.map NB.u8v with
    | nil => exact hn hv
    | cons v t =>
      have := h.cell b o e 0 v (by rw [hv]; rfl)
      unfold World.cell? at this
      simp only [hh] at this
      cases this
theorem BlkF.mapped {w w' : World} {bm m : Nat} {f : Int → Option Value} {u : Option Value} {o : Option Bk} (h : BlkF w u o) (hg : w.grownBy w' (some bm)) (hm : MapI Try.prog 3 w bm m f) : BlkF w' u o := by
  cases o with
  | none => exact h
  | some x => obtain ⟨a, n, c, h1, h2⟩ := h; exact ⟨a, n, c, h1, rd_mapped h2 hg hm⟩
theorem blkF_some {w : World} {u : Option Value} {x : Bk} {a : Option Addr} {n c : Nat} (h : NB.RdB w a n c x.bs) (hu : u = some (.agg (blkV x a n c).toArray)) : BlkF w u (some x) := ⟨a, n, c, hu, h⟩
theorem MapK.skip {w : World} {bm m : Nat} {R : List (List UInt8)} {k : Nat} (h : MapK w bm m R k) (hk : lk R k = none) : MapK w bm m R (k + 1) := by
  obtain ⟨f, h1, h2⟩ := h
  refine ⟨f, h1, fun i => ?_⟩
  have := h2 i
  by_cases hi : i = k
  · subst hi
    rw [if_pos (by omega), hk]
    rw [if_neg (by omega)] at this
    exact this
  · by_cases h3 : i < k
    · rw [if_pos h3] at this; rw [if_pos (by omega)]; exact this
    · rw [if_neg h3] at this; rw [if_neg (by omega)]; exact this

theorem see64 {l : List UInt8} (hl : l.length = 64) (i : Nat) : ∀ (W : List (Nat × List UInt8)), (∀ x ∈ W, x.2.length = 64) → ∀ b : List UInt8, b.length = 64 → (W.foldl (fun b x => if x.1 = i then x.2 else b) b).length = 64
  | [], _, b, hb => hb
  | x :: W, hW, b, hb => by
    refine see64 hl i W (fun y hy => hW y (by simp [hy])) _ ?_
    show (if x.1 = i then x.2 else b).length = 64
    split
    · exact hW x (by simp)
    · exact hb
theorem read64 {w : World} {base p : Nat} {G : Nat → Prop} {D : Dk} (h : HasD w base p G D) (hd : D.down = false) (i : Nat) (hi : i < D.l.length) : (D.read (i : Int)).2 = 0 ∧ (D.read (i : Int)).1.length = 64 := by
  have h0 : D.at_ (i : Int) = 0 := by
    unfold Dk.at_
    rw [hd, if_neg (by simp), if_neg (by omega)]
  unfold Dk.read
  rw [h0, if_neg (by simp), Int.toNat_natCast]
  refine ⟨rfl, ?_⟩
  have hb : (D.l.getD i []).length = 64 := by
    rw [List.getD_eq_getElem?_getD, List.getElem?_eq_getElem hi]
    exact h.l64 _ (List.getElem_mem hi)
  exact see64 hb i D.waits (fun x hx => (h.w64 x hx).1) _ hb
theorem read_down {D : Dk} (hd : D.down = true) (i : Int) : D.read i = ([], 20) := by
  have h0 : D.at_ i = 20 := by
    unfold Dk.at_
    rw [hd, if_pos rfl]
  unfold Dk.read
  rw [h0, if_pos (by decide)]
theorem top_snoc (R : List (List UInt8)) (k : Nat) (b : List UInt8) (h : R[k]? = some b) : topM (R.take (k + 1)) = max (topM (R.take k)) (max (num4 b) (num4 (b.drop 60))) := by
  have e : R.take (k + 1) = R.take k ++ [b] := by
    rw [List.take_add_one, h]; rfl
  rw [e, topM, List.foldl_append]; rfl

set_option maxHeartbeats 1000000 in
theorem need_any (w : World) (n : Nat) (hn : n ≤ 1000000000) : Calls Try.prog 55 #[.int .i64 (n : Int)] w fun e w' => e = .returned (.int .i64 (needM n : Int)) ∧ w' = w := by
  have h1 : IntKind.i64.wrap ((n : Int) + 45) = (n : Int) + 45 := IntWalk.i64_in _ ⟨by omega, by omega⟩
  have h2 : IntKind.i64.wrap ((n : Int) + 45 - 1) = (n : Int) + 45 - 1 := IntWalk.i64_in _ ⟨by omega, by omega⟩
  have h3 : ((n : Int) + 45 - 1).tdiv 45 = (((n + 44) / 45 : Nat) : Int) := by
    rw [show (n : Int) + 45 - 1 = ((n + 44 : Nat) : Int) by omega]; rfl
  have h4 : IntKind.i64.wrap (((n + 44) / 45 : Nat) : Int) = (((n + 44) / 45 : Nat) : Int) := IntWalk.i64_in _ ⟨by omega, by omega⟩
  have h5 : max (((n + 44) / 45 : Nat) : Int) 1 = (needM n : Int) := by unfold needM; omega
  generalize needM n = M at *
  generalize (n + 44) / 45 = Q at *
  go_enter Try.func55, Try.ntmps55
  go_wp2
  all_goals
    go_ret
    refine ⟨?_, rfl⟩
    apply congrArg
    show Value.int .i64 _ = Value.int .i64 _
    apply congrArg
    omega

def AllS (w : World) (D : Dk) (frm n : Nat) (e : Ending) (w' : World) : Prop :=
  (D.down = true ∧ e = .returned (.tuple #[.map none, .int .u64 0, .int .i64 20]) ∧ Below w.heap.size w w') ∨
  (D.down = false ∧ ∃ bm m, e = .returned (.tuple #[.map (some bm), .int .u64 (topM (regM D frm n) : Int), .int .i64 0]) ∧ MapK w' bm m (regM D frm n) n ∧ m ≤ n ∧ Below w.heap.size w w')

set_option maxRecDepth 100000 in
set_option maxHeartbeats 2000000 in
theorem all_any (w : World) (base p : Nat) (G : Nat → Prop) (D : Dk) (frm n : Nat) (hD : HasD w base p G D) (hwn : D.waits.length ≤ 1000000) (hreg : frm + n ≤ D.l.length) (h1 : 1 ≤ n) :
    Calls Try.prog 35 #[.pointer (some ⟨p, 0, none⟩), .int .i64 (frm : Int), .int .i64 (n : Int)] w (AllS w D frm n) := by
  have hlen : D.l.length ≤ 65536 := by obtain ⟨bl, vW, h, _⟩ := hD; exact h.n
  cases hdn : D.down with
  | true =>
    have hrd := fun w h => dread_any w base p G D (frm : Int) h hwn
    rw [read_down hdn] at hrd
    have hwf : IntKind.i64.wrap ((frm : Int) + 0) = (frm : Int) := IntWalk.i64_in _ ⟨by omega, by omega⟩
    have hn0 : (0 : Int) < (n : Int) := by omega
    have hmm := @run_makeMap Try.prog
    go_enter Try.func35, Try.ntmps35
    go_wp2_with fail
    go_loopw [18, 10] (fun i t wr => i = .int .i64 0 ∧ t = .int .u64 0 ∧ wr = w.alloc (.map #[] 0)) (fun i _ _ => 0)
    case atStart => exact ⟨rfl, rfl, rfl⟩
    case round =>
      obtain ⟨rfl, rfl, rfl⟩ := hrel
      go_wp2_with fail
      refine (hrd _ (hD.alloc _)).mono ?_
      rintro e w1 ⟨a1, c1, rfl, _, hb1⟩
      have B1 := NB.bel (oneB w (.map #[] 0)) hb1 (oneB w (.map #[] 0)).size
      go_wp2_with fail
      go_ret3
      exact .inl ⟨hdn, rfl, B1⟩
  | false =>
    have hmm := @run_makeMap Try.prog
    have hk0 := mapK_new w (regM D frm n)
    have hRl : ∀ k, k < n → (regM D frm n)[k]? = some (D.read ((frm + k : Nat) : Int)).1 := fun k hk => by
      unfold regM; rw [List.getElem?_map, List.getElem?_range hk]; rfl
    obtain ⟨R, hR⟩ : ∃ R, regM D frm n = R := ⟨_, rfl⟩
    have hRn : R.length = n := by rw [← hR]; simp [regM]
    unfold AllS
    rw [hR] at hk0 hRl ⊢
    have HR := Go.Lib.hid hR
    clear hR
    have HRL := Go.Lib.hid hRl
    clear hRl
    have htop0 : topM (R.take 0) = 0 := rfl
    go_enter Try.func35, Try.ntmps35
    go_wp2_with fail
    go_loopw [18, 10] (fun i t wr => ∃ k m : Nat, k ≤ n ∧ m ≤ k ∧ i = .int .i64 (k : Int) ∧ t = .int .u64 (topM (R.take k) : Int) ∧ MapK wr w.heap.size m R k ∧ w.heap.size < wr.heap.size ∧ Below w.heap.size w wr) (fun i _ _ => n - (intOf i).toNat)
    case atStart => exact ⟨0, 0, Nat.zero_le _, Nat.le_refl _, rfl, by rw [htop0]; rfl, hk0, by simp, oneB _ _⟩
    case round =>
      obtain ⟨k, m, hk, hm, rfl, rfl, hM, hlt, B⟩ := hrel
      by_cases hkn : k < n
      · have hwf : IntKind.i64.wrap ((frm : Int) + (k : Int)) = ((frm + k : Nat) : Int) := by rw [IntWalk.i64_in _ ⟨by omega, by omega⟩]; omega
        have hki : (k : Int) < (n : Int) := by omega
        have hrd := fun w h => dread_any w base p G D ((frm + k : Nat) : Int) h hwn
        obtain ⟨h2, h64⟩ := read64 hD hdn (frm + k) (by omega)
        have hRk := HRL.out k hkn
        obtain ⟨b, x, hbx⟩ : ∃ b x, D.read ((frm + k : Nat) : Int) = (b, x) := ⟨_, _, rfl⟩
        rw [hbx] at hrd h2 h64 hRk
        simp only at h2 h64 hRk
        subst h2
        rw [show ((frm + k : Nat) : Int) = (frm : Int) + (k : Int) by omega] at hrd
        have htop := top_snoc R k b hRk
        have hlk : lk R k = readB b := by unfold lk; rw [hRk]; rfl
        have HTOP := Go.Lib.hid htop; have HLK := Go.Lib.hid hlk; have HRD := Go.Lib.hid hrd
        clear htop hlk hrd hRk hbx
        have hb4 := num4_lt b
        have hb60 := num4_lt (b.drop 60)
        generalize topM (R.take k) = T at *
        generalize hT' : topM (R.take (k + 1)) = T' at *
        have HT' := Go.Lib.hid hT'; clear hT'
        have hmax : max (T : Int) (max (num4 b : Int) (num4 (b.drop 60) : Int)) = (T' : Int) := by rw [HTOP.out]; omega
        have hmax2 : max (max (T : Int) (num4 b : Int)) (num4 (b.drop 60) : Int) = (T' : Int) := by rw [HTOP.out]; omega
        go_wp2_with fail
        refine (HRD.out _ (hD.below B)).mono ?_
        rintro e w1 ⟨a1, c1, rfl, ho1, hb1⟩
        have hM1 := hM.below hb1
        have hD1 := (hD.below B).below hb1
        have B1 := NB.bel B hb1 B.size
        have hlt1 : w.heap.size < w1.heap.size := Nat.lt_of_lt_of_le hlt hb1.size
        obtain ⟨a1', c1', ee, Rx, _, _⟩ := NB.rd_of_own ho1
        cases ee
        have hr1 : NB.RdB w1 a1 64 c1 b := by have := Rx; rw [h64] at this; exact this
        clear Rx ho1 hb1 hM B
        simp only [h64]
        have hc60 : ¬ c1 = 60 := by have := hr1.le; omega
        have hc60i : (60 : Int) ≤ (c1 : Int) := by have := hr1.le; omega
        have hcle := hr1.le
        go_wp2_with fail
        refine NB.wp_region_m (by kernel_rfl) ?_
        have hD2 := hD1.below (dB _)
        have B2 : Below w.heap.size w w1.drew := B1.drew
        have hM2 := hM1.below (dB _)
        have hr2 : NB.RdB w1.drew a1 64 c1 b := Rd.below hr1 (dB _)
        have hlt2 : w.heap.size < w1.drew.heap.size := hlt1
        clear hD1 B1 hM1 hr1 hlt1
        generalize w1.drew = v at *
        obtain ⟨b3, o3, ha1, _⟩ := NB.RdB.at hr2 (by omega)
        subst ha1
        have hR6 : NB.RdB v (some ⟨b3, o3 + 60, none⟩) 4 (c1 - 60) (b.drop 60) := by have h4 := NB.rdB_tail hr2 60 (by omega); rw [if_neg (by omega)] at h4; exact h4
        refine NB.any_p 0 rfl (by kernel_rfl) (fun K hK => ?_); go_simp; refine hK _ ?_; clear hK K
        refine NB.any_p 1 rfl (by kernel_rfl) (fun K hK => ?_); go_simp; refine hK _ ?_; clear hK K
        refine NB.any_p 3 rfl (by kernel_rfl) (fun K hK => ?_); go_simp; refine hK _ ?_; clear hK K
        refine NB.any_p 4 rfl (by kernel_rfl) (fun K hK => ?_); go_simp; refine hK _ ?_; clear hK K
        refine NB.any_e 2 rfl (by kernel_rfl) (fun K hK => ?_); unfold NB.moves; go_simp; refine (four_any _ _ _ _ b hr2 (by omega)).mono ?_; rintro e w' ⟨rfl, e2⟩; subst w'; refine ⟨_, rfl, Below.refl _ _, hK _ _ ?_⟩; clear hK K
        refine NB.any_e 5 rfl (by kernel_rfl) (fun K hK => ?_); unfold NB.moves; go_simp; refine (four_any _ _ _ _ (b.drop 60) hR6 (by omega)).mono ?_; rintro e w' ⟨rfl, e2⟩; subst w'; refine ⟨_, rfl, Below.refl _ _, hK _ _ ?_⟩; clear hK K
        refine NB.any_p 6 rfl (by kernel_rfl) (fun K hK => ?_); go_simp; refine hK _ ?_; clear hK K
        refine NB.any_p 7 rfl (by kernel_rfl) (fun K hK => ?_); go_simp; refine hK _ ?_; clear hK K
        refine NB.any_end (by kernel_rfl) ?_
        have hmx : (if (if T < num4 b then ((num4 b : Nat) : Int) else (T : Int)) < ((num4 (b.drop 60) : Nat) : Int) then ((num4 (b.drop 60) : Nat) : Int) else if T < num4 b then ((num4 b : Nat) : Int) else (T : Int)) = (T' : Int) := by
          rw [HTOP.out]
          split <;> split at * <;> omega
        rw [hmx]
        clear hmx hmax hmax2
        go_wp2_with fail
        have ctr := sread_any v (some ⟨b3, o3, none⟩) c1 b hr2
        have hblk : BlkF v none (none : Option Bk) := rfl
        cases hq : readB b with
        | none =>
          unfold ReadS at ctr
          rw [hq] at ctr
          refine ctr.mono ?_
          rintro e w3 ⟨x, a3, n3, c3, rfl, hr3, _, hb3⟩
          have hM3 := hM2.below hb3
          have B3 := NB.bel B2 hb3 B2.size
          have hlt3 : w.heap.size < w3.heap.size := Nat.lt_of_lt_of_le hlt2 hb3.size
          unfold blkV
          clear ctr hM2 hD2 B2 hr2 hR6 hlt2
          go_wp2_with (refine NB.wpList_store_agg_any rfl 93 (.tmp 14) (.tmp 42) rfl rfl w3.heap.size 0 _ rfl rfl 93 _ (heap_alloc_new w3 _) (by kernel_rfl) (by simp) (by simp [Value.oneCell']) _ (NB.splice_all _ _ (by simp)) ?_; intro w5 hg5 hr5 hs5)
          have hbn := new_below hg5
          exact ⟨⟨k + 1, m, by omega, by omega, by go_num, by rw [HT'.out], (hM3.below hbn).skip (HLK.out.trans hq), Nat.lt_of_lt_of_le hlt3 hbn.size, NB.bel B3 hbn B3.size⟩, by simp [intOf]; omega⟩
        | some y =>
          unfold ReadS at ctr
          rw [hq] at ctr
          refine ctr.mono ?_
          rintro e w3 ⟨x, a3, n3, c3, rfl, hr3, hxy, hb3⟩
          obtain rfl := hxy y rfl
          have hM3 := hM2.below hb3
          have B3 := NB.bel B2 hb3 B2.size
          have hlt3 : w.heap.size < w3.heap.size := Nat.lt_of_lt_of_le hlt2 hb3.size
          have hwk := i64_nat (k := k) (by omega)
          obtain ⟨f, hf1, hf2⟩ := hM3
          unfold blkV
          clear ctr hM2 hD2 B2 hr2 hR6 hlt2 hxy
          go_wp2_with (first
            | (refine NB.wpList_store_agg_any rfl 93 (.tmp 14) (.tmp 42) rfl rfl w3.heap.size 0 _ rfl rfl 93 _ (heap_alloc_new w3 _) (by kernel_rfl) (by simp) (by simp [Value.oneCell']) _ (NB.splice_all _ _ (by simp)) ?_; intro w5 hg5 hr5 hs5; have hR5 : Rw w5 w3.heap.size _ 93 := hr5; obtain ⟨d0, d1, d2, d3, d4, _⟩ := NB.rw5 hR5; have hbn := new_below hg5; have hf5 := hf1.keep (hbn.block _ hlt3))
            | (refine NB.wpList_put_i keyB rfl (.tmp 45) (.tmp 46) (.tmp 47) 85 rfl Try.underlying85 hf5 rfl rfl rfl hwk (by unfold maxLen; omega) ?_; intro w6 hm6 hg6 hs6))
          have B5 := NB.bel B3 hbn B3.size
          have hlt5 := Nat.lt_of_lt_of_le hlt3 hbn.size
          have B6 : Below w.heap.size w w6 := B5.grown hg6 B5.size (by rintro k hk; cases hk; exact Nat.le_refl _)
          refine ⟨⟨k + 1, m + 1, by omega, by omega, by go_num, by rw [HT'.out], ⟨_, hm6, fun i => ?_⟩, by omega, B6⟩, by simp [intOf]; omega⟩
          by_cases hik : i = k
          · subst hik
            have hl : (if i < i + 1 then lk R i else none) = some x := by rw [if_pos (by omega), HLK.out, hq]
            rw [hl]
            have hr5' := Rd.below hr3 hbn
            refine blkF_some (rd_mapped hr5' hg6 hf5) ?_
            first | rfl | (rw [if_pos rfl]; rfl) | (simp [blkV]; rfl)
          · have h0 := hf2 i
            have : (if i < k + 1 then lk R i else none) = (if i < k then lk R i else none) := by
              by_cases h1 : i < k
              · rw [if_pos h1, if_pos (by omega)]
              · rw [if_neg h1, if_neg (by omega)]
            rw [this]
            have hne : ¬ ((i : Int) = (k : Int)) := by omega
            simp only [hne, if_false]
            exact ((hf2 i).below hbn).mapped hg6 hf5
      · obtain rfl : k = n := by omega
        have hki : ¬ (k : Int) < (k : Int) := by omega
        go_wp2_with fail
        go_ret3
        exact ⟨w.heap.size, by rw [← hRn, List.take_length]; rfl, m, hM, hm, B⟩
end Go.Proofs.Ytjfidhjnbcmhfaa
