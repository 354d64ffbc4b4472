/- The cell's reference, walked: what is opened. -/
import Derived.Test.YtcdapjfaekamkaaRsc
import Derived.Test.YtcdapjfaekamkaaRff
namespace Go.Proofs.Ytcdapjfaekamkaa
open Go.RowKit
open Go.NB.Crc
open Go.NB (Rd Dk Kp Stp Off Dis val Ce footC)

/-- A cell of the reference. -/
def cV (c : Ce) : Value := .agg #[.int .i64 (c.at_ : Int), .int .i64 c.now, .int .u64 (c.turn : Int), .int .u64 (c.top : Int), .string ⟨c.b.toArray⟩, .int .i64 c.e]
def cL (c : Ce) : List Value := [.int .i64 (c.at_ : Int), .int .i64 c.now, .int .u64 (c.turn : Int), .int .u64 (c.top : Int), .string ⟨c.b.toArray⟩, .int .i64 c.e]
theorem rw6 {w : World} {g : Nat} {a b c d e f : Value} {t : TypeId} (h : Rw w g [a, b, c, d, e, f] t) :
    w.cell? ⟨g, 0, none⟩ = some a ∧ w.cell? ⟨g, 1, none⟩ = some b ∧ w.cell? ⟨g, 2, none⟩ = some c ∧ w.cell? ⟨g, 3, none⟩ = some d ∧ w.cell? ⟨g, 4, none⟩ = some e ∧ w.cell? ⟨g, 5, none⟩ = some f ∧
    w.frozen? ⟨g, 0, none⟩ = false ∧ w.frozen? ⟨g, 1, none⟩ = false ∧ w.frozen? ⟨g, 2, none⟩ = false ∧ w.frozen? ⟨g, 3, none⟩ = false ∧ w.frozen? ⟨g, 4, none⟩ = false ∧ w.frozen? ⟨g, 5, none⟩ = false :=
  ⟨h.cell 0 _ rfl, h.cell 1 _ rfl, h.cell 2 _ rfl, h.cell 3 _ rfl, h.cell 4 _ rfl, h.cell 5 _ rfl, h.free 0, h.free 1, h.free 2, h.free 3, h.free 4, h.free 5⟩
theorem three_rw (w : World) (xs ys zs : List Value) (t t' t'' : TypeId) :
    Rw (((w.alloc (.cells xs.toArray t)).alloc (.cells ys.toArray t')).alloc (.cells zs.toArray t'')) w.heap.size xs t ∧ Rw (((w.alloc (.cells xs.toArray t)).alloc (.cells ys.toArray t')).alloc (.cells zs.toArray t'')) (w.heap.size + 1) ys t' ∧
    Rw (((w.alloc (.cells xs.toArray t)).alloc (.cells ys.toArray t')).alloc (.cells zs.toArray t'')) (w.heap.size + 2) zs t'' ∧ Below w.heap.size w (((w.alloc (.cells xs.toArray t)).alloc (.cells ys.toArray t')).alloc (.cells zs.toArray t'')) := by
  have h1 := rw_new w xs t rfl
  have h2 := rw_new (w.alloc (.cells xs.toArray t)) ys t' (g := w.heap.size + 1) (by simp)
  have h3 := rw_new ((w.alloc (.cells xs.toArray t)).alloc (.cells ys.toArray t')) zs t'' (g := w.heap.size + 2) (by simp)
  exact ⟨(h1.below (oneB _ _)).below (oneB _ _), h2.below (oneB _ _), h3, (twoB _ _ _).alloc (by simp; omega) _⟩
theorem stepC_now (n : Nat) (D : Dk) (k : Nat) : (stepC n D k).now < 0 → (stepC n D k).turn = 0 := by
  induction k with
  | zero => intro _; rfl
  | succ k ih =>
    rw [stepC_succ]
    unfold lookC
    split
    · intro h
      simp only at h
      omega
    · exact ih

set_option maxHeartbeats 1000000 in
theorem ropen_bad (w : World) (v : Value) (D : Dk) (h : RefD w v D) (i : Int) (hi : i < 0 ∨ (D.l.length : Int) - 2 < i) (hln : D.l.length ≤ 65536) :
    Calls Try.prog 19 #[v, .int .i64 i] w fun e w' => e = .returned (.tuple #[cV ⟨0, 0, 0, 0, [], 0⟩, .int .i64 1]) ∧ Below w.heap.size w w' := by
  obtain ⟨a1, c1, a2, c2, rfl, h1, h2⟩ := h
  have hbd1 := h1.bound
  have hbd2 := h2.bound
  unfold rdV
  by_cases h0 : i < 0
  · go_enter Try.func19, Try.ntmps19
    go_wp2
    exact bodyPost_ret (v := .tuple #[cV ⟨0, 0, 0, 0, [], 0⟩, .int .i64 1]) (by simp [results, Try.results19, go_sem, cV]) rfl ⟨rfl, twoB _ _ _⟩
  · have h2 : (D.l.length : Int) - 2 < i := by omega
    have h0d : decide (i < 0) = false := by simpa using h0
    go_enter Try.func19, Try.ntmps19
    go_wp2
    exact bodyPost_ret (v := .tuple #[cV ⟨0, 0, 0, 0, [], 0⟩, .int .i64 1]) (by simp [results, Try.results19, go_sem, cV]) rfl ⟨rfl, twoB _ _ _⟩

set_option maxRecDepth 100000 in
set_option maxHeartbeats 8000000 in
theorem ropen_any (w : World) (v : Value) (D : Dk) (h : RefD w v D) (n : Nat) (hc : Calm D) (hn : n + 2 ≤ D.l.length) (hln : D.l.length ≤ 65536) (h64 : ∀ b ∈ D.l, b.length = 64) :
    Calls Try.prog 19 #[v, .int .i64 (n : Int)] w fun e w' => e = .returned (.tuple #[cV (openL n D.l), .int .i64 0]) ∧ Below w.heap.size w w' := by
  rw [← calm_openD hc n hn]
  obtain ⟨a1, c1, a2, c2, rfl, h1, h2⟩ := h
  have hbd1 := h1.bound
  have hbd2 := h2.bound
  have hni : ¬ (n : Int) < 0 := by omega
  have hn2 : ¬ (D.l.length : Int) - 2 < (n : Int) := by omega
  have hdn := hc.down
  have hrd := fun w1 hb z => rread_any w1 a1 D.l.length c1 a2 D.waits.length c2 D z (Rd.below h1 hb) (Rd.below h2 hb) hln (by rw [hc.waits]; exact Nat.zero_le _)
  have hcr : ∀ k, k < 2 → D.read ((n + k : Nat) : Int) = (D.l.getD (n + k) [], 0) ∧ (D.l.getD (n + k) []).length = 64 := fun k hk => by
    refine ⟨calm_read hc (n + k) (by omega), ?_⟩
    rw [List.getD_eq_getElem?_getD, List.getElem?_eq_getElem (by omega)]
    exact h64 _ (List.getElem_mem (by omega))
  have hopen : openD n D = stepC n D 2 := rfl
  rw [hopen]
  have T := three_rw w [.slice a1 D.l.length c1, .slice a2 D.waits.length c2, .int .i64 D.left, .bool D.down] [.int .i64 0, .int .i64 0, .int .u64 0, .int .u64 0, .string ⟨#[]⟩, .int .i64 0] [.int .i64 (n : Int), .int .i64 (-1), .int .u64 0, .int .u64 0, .string ⟨#[]⟩, .int .i64 0] 49 53 53
  unfold rdV
  unfold rdV strL at hrd
  rw [hdn] at hrd T ⊢
  have HRR := Go.Lib.hid hrd
  have HCR := Go.Lib.hid hcr
  clear hrd hcr hdn h1 h2 hc hopen
  go_enter Try.func19, Try.ntmps19
  go_wp2_with fail
  simp only [List.toArray] at T
  generalize ((w.alloc (.cells #[.slice a1 D.l.length c1, .slice a2 D.waits.length c2, .int .i64 D.left, .bool false] 49)).alloc (.cells #[.int .i64 0, .int .i64 0, .int .u64 0, .int .u64 0, .string ⟨#[]⟩, .int .i64 0] 53)).alloc (.cells #[.int .i64 (n : Int), .int .i64 (-1), .int .u64 0, .int .u64 0, .string ⟨#[]⟩, .int .i64 0] 53) = w3 at *
  obtain ⟨T1, T2, T3, T4⟩ := T
  go_loopw [7] (fun x wr => ∃ k : Nat, k ≤ 2 ∧ x = .int .i64 k ∧ Rw wr (w.heap.size + 2) (cL (stepC n D k)) 53 ∧ Rw wr w.heap.size [.slice a1 D.l.length c1, .slice a2 D.waits.length c2, .int .i64 D.left, .bool false] 49 ∧ Rw wr (w.heap.size + 1) [.int .i64 0, .int .i64 0, .int .u64 0, .int .u64 0, .string ⟨#[]⟩, .int .i64 0] 53 ∧ Below w.heap.size w wr) (fun x _ => 2 - (intOf x).toNat)
  case atStart => exact ⟨0, by omega, rfl, T3, T1, T2, T4⟩
  case round =>
    clear T1 T2 T3 T4
    obtain ⟨k, hk, rfl, RC, RA, RB, hB⟩ := hrel
    have hsn := stepC_now n D k
    have hsa := stepC_at n D k
    obtain ⟨c, hcc⟩ : ∃ c, stepC n D k = c := ⟨_, rfl⟩
    rw [hcc] at RC hsn
    clear hsa
    obtain ⟨at_, now, turn, top, b, e⟩ := c
    simp only at hsn
    unfold cL at RC
    simp only at RC
    by_cases hlt : k < 2
    · have hki : (k : Int) < 2 := by omega
      obtain ⟨hrd, hX64⟩ := HCR.out k hlt
      generalize D.l.getD (n + k) [] = X at *
      have hX56 : X.take 64 = X := List.take_of_length_le (by omega)
      obtain ⟨N, hN⟩ : ∃ N, n + k = N := ⟨_, rfl⟩
      have hNi : (n : Int) + (k : Int) = (N : Int) := by omega
      rw [hN] at hrd
      have hrr := HRR.out wr hB (N : Int)
      have hrr2 := fun w1 hb => HRR.out w1 hb (N : Int)
      rw [hrd] at hrr2
      simp only at hrr2
      have HRX := Go.Lib.hid hrr2
      clear hrr hrr2
      obtain ⟨M, hM⟩ : ∃ M, num8 X = M := ⟨_, rfl⟩
      obtain ⟨TL, hTL⟩ : ∃ TL, num8 (X.drop 56) = TL := ⟨_, rfl⟩
      have HNM : Hid (∀ w, Calls Try.prog 37 #[.string ⟨X.toArray⟩] w fun e w' => e = .returned (.int .u64 (M : Int)) ∧ w' = w) := Go.Lib.hid (fun w => by rw [← hM]; exact rnumber_l w X (by omega) (by omega))
      have HNT : Hid (∀ w, Calls Try.prog 37 #[.string ⟨(X.drop 56).toArray⟩] w fun e w' => e = .returned (.int .u64 (TL : Int)) ∧ w' = w) := Go.Lib.hid (fun w => by rw [← hTL]; exact rnumber_l w (X.drop 56) (by rw [List.length_drop]; omega) (by rw [List.length_drop]; omega))
      obtain ⟨T, hT⟩ : ∃ T, max top (max M TL) = T := ⟨_, rfl⟩
      have hTC : topC ⟨at_, now, turn, top, b, e⟩ X = T := by rw [topC, hM, hTL]; exact hT
      have hmx : ∀ a b d : Nat, (if (if a < b then (b : Int) else (a : Int)) < (d : Int) then (d : Int) else if a < b then (b : Int) else (a : Int)) = ((max a (max b d) : Nat) : Int) := fun a b d => by split <;> split at * <;> omega
      have HC := Go.Lib.hid hcc
      have HM := Go.Lib.hid hM
      have HTC := Go.Lib.hid hTC
      have hRD : (D.read ((n + k : Nat) : Int)).1 = X := by rw [hN, hrd]
      have HRD := Go.Lib.hid hRD
      clear hcc hTC hRD hrd hTL
      have hwn : IntKind.i64.wrap (N : Int) = (N : Int) := by rw [IntKind.wrap_i64]; omega
      obtain ⟨x0, x1, x2, x3, _, _, _, _⟩ := rw4 RA
      go_wp2_with fail
      go_at_call 36
      refine (HRX.out _ hB).mono ?_
      rintro e5 w5 ⟨rfl, hb5⟩
      have RA5 := RA.below hb5
      have RB5 := RB.below hb5
      have RC5 := RC.below hb5
      have B5 := bel hB hb5 hB.size
      clear x0 x1 x2 x3 RA RB RC hB hb5
      go_wp2_with fail
      refine NB.wp_region_t [9] (by kernel_rfl) ?_
      have RA6 := RA5.below (Below.refl _ w5).drew
      have RB6 := RB5.below (Below.refl _ w5).drew
      have RC6 := RC5.below (Below.refl _ w5).drew
      have B6 : Below w.heap.size w w5.drew := B5.drew
      clear RA5 RB5 RC5 B5
      generalize w5.drew = w6 at *
      have c3 := RC6.cell 3 _ rfl
      refine NB.t_p 0 rfl (by kernel_rfl) (fun K hK => ?_); go_simp; refine hK _ ?_; clear hK K
      refine NB.t_r 1 [7, 8, 9] rfl (by kernel_rfl) (by kernel_rfl) rfl _ (fun w' hw' => NB.run_op_load rfl rfl Try.underlying33 rfl (c3) hw') (fun K hK => ?_); go_simp; refine hK _ ?_; clear hK K
      refine NB.t_p 2 rfl (by kernel_rfl) (fun K hK => ?_); go_simp; refine hK _ ?_; clear hK K
      refine NB.t_p 4 rfl (by kernel_rfl) (fun K hK => ?_); go_simp; refine hK _ ?_; clear hK K
      refine NB.t_p 5 rfl (by kernel_rfl) (fun K hK => ?_); go_simp; refine hK _ ?_; clear hK K
      refine NB.t_e 3 rfl (by kernel_rfl) (by kernel_rfl) (fun K hK => ?_); unfold NB.tmoves; go_simp; refine (HNM.out _).mono ?_; rintro e w' ⟨rfl, e2⟩; subst w'; refine ⟨_, rfl, Below.refl _ _, hK _ _ ?_⟩; clear hK K
      refine NB.t_e 6 rfl (by kernel_rfl) (by kernel_rfl) (fun K hK => ?_); unfold NB.tmoves; go_simp; refine (HNT.out _).mono ?_; rintro e w' ⟨rfl, e2⟩; subst w'; refine ⟨_, rfl, Below.refl _ _, hK _ _ ?_⟩; clear hK K
      refine NB.t_p 7 rfl (by kernel_rfl) (fun K hK => ?_); go_simp; refine hK _ ?_; clear hK K
      refine NB.t_p 8 rfl (by kernel_rfl) (fun K hK => ?_); go_simp; refine hK _ ?_; clear hK K
      refine NB.t_w 9 rfl (by kernel_rfl) (by kernel_rfl) rfl (fun Q' hK => ?_)
      have c3 := RC6.cell 3 _ rfl
      have u3 := RC6.free 3
      go_wp2_with fail
      refine NB.t_end (by kernel_rfl) ?_
      have RC7 := RC6.set 3 (.int .u64 (T : Int))
      have RA7 := RA6.other (g' := w.heap.size + 2) (by omega) 3 (.int .u64 (T : Int))
      have RB7 := RB6.other (g' := w.heap.size + 2) (by omega) 3 (.int .u64 (T : Int))
      have B7 : Below w.heap.size w (w6.setCell ⟨w.heap.size + 2, 3, none⟩ (.int .u64 (T : Int))) := B6.setCell (p := ⟨w.heap.size + 2, 3, none⟩) (by simp) _
      simp only [List.set] at RC7
      clear c3 u3 RC6 RA6 RB6 B6
      generalize w6.setCell ⟨w.heap.size + 2, 3, none⟩ (.int .u64 (T : Int)) = w7 at *
      have hrg := fun w => rright8_any w X hX64
      cases hW : wholeL X with
      | false =>
        rw [hW] at hrg
        have HRG := Go.Lib.hid hrg
        clear hrg
        have HTK : Hid ((wholeL X && decide (turn < num8 X)) = false) := Go.Lib.hid (by rw [hW]; rfl)
        go_wp2_with fail
        go_at_call 38
        refine (HRG.out _).mono ?_
        rintro e8 w8 ⟨rfl, hb8⟩
        have RA8 := RA7.below hb8
        have RB8 := RB7.below hb8
        have RC8 := RC7.below hb8
        have B8 := bel B7 hb8 B7.size
        clear RA7 RB7 RC7 B7 hb8
        go_wp2_with fail
        refine NB.wp_region_m (by kernel_rfl) ?_
        have RA9 := RA8.below (Below.refl _ w8).drew
        have RB9 := RB8.below (Below.refl _ w8).drew
        have RC9 := RC8.below (Below.refl _ w8).drew
        have B9 : Below w.heap.size w w8.drew := B8.drew
        clear RA8 RB8 RC8 B8
        generalize w8.drew = w9 at *
        have c1 := RC9.cell 1 _ rfl
        have c2 := RC9.cell 2 _ rfl
        refine NB.any_p 0 rfl (by kernel_rfl) (fun K hK => ?_); go_simp; refine hK _ ?_; clear hK K
        refine NB.any_p 1 rfl (by kernel_rfl) (fun K hK => ?_); go_simp; refine hK _ ?_; clear hK K
        refine NB.any_p 2 rfl (by kernel_rfl) (fun K hK => ?_); go_simp; refine hK _ ?_; clear hK K
        refine NB.any_p 3 rfl (by kernel_rfl) (fun K hK => ?_); go_simp; refine hK _ ?_; clear hK K
        refine NB.any_p 4 rfl (by kernel_rfl) (fun K hK => ?_); go_simp; refine hK _ ?_; clear hK K
        refine NB.any_p 5 rfl (by kernel_rfl) (fun K hK => ?_); go_simp; refine hK _ ?_; clear hK K
        refine NB.any_p 6 rfl (by kernel_rfl) (fun K hK => ?_); go_simp; refine hK _ ?_; clear hK K
        refine NB.any_p 8 rfl (by kernel_rfl) (fun K hK => ?_); go_simp; refine hK _ ?_; clear hK K
        refine NB.any_p 9 rfl (by kernel_rfl) (fun K hK => ?_); go_simp; refine hK _ ?_; clear hK K
        refine NB.any_e 7 rfl (by kernel_rfl) (fun K hK => ?_); go_simp; refine hK _ _ ?_; clear hK K
        refine NB.any_p 10 rfl (by kernel_rfl) (fun K hK => ?_); go_simp; refine hK _ ?_; clear hK K
        refine NB.any_p 11 rfl (by kernel_rfl) (fun K hK => ?_); go_simp; refine hK _ ?_; clear hK K
        refine NB.any_p 12 rfl (by kernel_rfl) (fun K hK => ?_); go_simp; refine hK _ ?_; clear hK K
        refine NB.any_end (by kernel_rfl) ?_
        go_wp2_with fail
        have hst : stepC n D (k + 1) = ⟨at_, now, turn, T, b, e⟩ := by
          rw [stepC_succ, HC.out, HRD.out, lookC, if_neg (by have := HTK.out; simpa using this), HTC.out]
        exact ⟨⟨k + 1, by omega, by simp, by rw [hst]; exact RC9, RA9, RB9, B9⟩, by simp [intOf]; omega⟩
      | true =>
        rw [hW] at hrg
        have HRG := Go.Lib.hid hrg
        clear hrg
        have hy : (X.getD 8 0).toNat ≤ 43 := by
          have := hW
          simp only [wholeL, Bool.and_eq_true, decide_eq_true_eq] at this
          exact this.1.2
        have hM0 : 0 < M := by rw [← hM]; exact whole_pos hW
        obtain ⟨B, hBB⟩ : ∃ B, (X.drop 9).take (X.getD 8 0).toNat = B := ⟨_, rfl⟩
        have HB := Go.Lib.hid hBB
        have hks : 8 < (⟨X.toArray⟩ : ByteArray).size := by show 8 < X.toArray.size; simp; omega
        have hyx : (⟨X.toArray⟩ : ByteArray)[8]'hks = X.getD 8 0 := by
          have := bget ⟨X.toArray⟩ 8 hks
          rw [← this]
        obtain ⟨y, hyy⟩ : ∃ y, X.getD 8 0 = y := ⟨_, rfl⟩
        rw [hyy] at hyx hy hBB
        obtain ⟨Z, hZ⟩ : ∃ Z, 9 + y.toNat = Z := ⟨_, rfl⟩
        have hZi : (9 : Int) + (y.toNat : Int) = (Z : Int) := by omega
        have hZ64 : (Z : Int) ≤ 64 := by omega
        have h9Z : (9 : Int) ≤ (Z : Int) := by omega
        have hwy : IntKind.i64.wrap (y.toNat : Int) = (y.toNat : Int) := by rw [IntKind.wrap_i64]; omega
        have hwZ : IntKind.i64.wrap (Z : Int) = (Z : Int) := by rw [IntKind.wrap_i64]; omega
        have hBZ : List.drop 9 (List.take Z X) = B := by
          rw [← hBB, ← hZ, List.drop_take]
          congr 1
          omega
        clear hyy hBB hZ
        by_cases hneg : now < 0
        · have ht0 := hsn hneg
          have HTK : Hid (turn < M) := Go.Lib.hid (by omega)
          go_wp2_with fail
          go_at_call 38
          refine (HRG.out _).mono ?_
          rintro e8 w8 ⟨rfl, hb8⟩
          have RA8 := RA7.below hb8
          have RB8 := RB7.below hb8
          have RC8 := RC7.below hb8
          have B8 := bel B7 hb8 B7.size
          clear RA7 RB7 RC7 B7 hb8
          go_wp2_with fail
          refine NB.wp_region_m (by kernel_rfl) ?_
          have RA9 := RA8.below (Below.refl _ w8).drew
          have RB9 := RB8.below (Below.refl _ w8).drew
          have RC9 := RC8.below (Below.refl _ w8).drew
          have B9 : Below w.heap.size w w8.drew := B8.drew
          clear RA8 RB8 RC8 B8
          generalize w8.drew = w9 at *
          have c1 := RC9.cell 1 _ rfl
          have c2 := RC9.cell 2 _ rfl
          refine NB.any_p 0 rfl (by kernel_rfl) (fun K hK => ?_); go_simp; refine hK _ ?_; clear hK K
          refine NB.any_p 1 rfl (by kernel_rfl) (fun K hK => ?_); go_simp; refine hK _ ?_; clear hK K
          refine NB.any_p 2 rfl (by kernel_rfl) (fun K hK => ?_); go_simp; refine hK _ ?_; clear hK K
          refine NB.any_r 3 rfl (by kernel_rfl) rfl _ (fun w' hw' => NB.run_op_load rfl rfl Try.underlying3 rfl (c1) hw') (fun K hK => ?_); go_simp; refine hK _ ?_; clear hK K
          refine NB.any_p 4 rfl (by kernel_rfl) (fun K hK => ?_); go_simp; refine hK _ ?_; clear hK K
          refine NB.any_p 5 rfl (by kernel_rfl) (fun K hK => ?_); go_simp; refine hK _ ?_; clear hK K
          refine NB.any_p 6 rfl (by kernel_rfl) (fun K hK => ?_); go_simp; refine hK _ ?_; clear hK K
          refine NB.any_p 8 rfl (by kernel_rfl) (fun K hK => ?_); go_simp; refine hK _ ?_; clear hK K
          refine NB.any_p 9 rfl (by kernel_rfl) (fun K hK => ?_); go_simp; refine hK _ ?_; clear hK K
          refine NB.any_e 7 rfl (by kernel_rfl) (fun K hK => ?_); go_simp; refine hK _ _ ?_; clear hK K
          refine NB.any_p 10 rfl (by kernel_rfl) (fun K hK => ?_); go_simp; refine hK _ ?_; clear hK K
          refine NB.any_p 11 rfl (by kernel_rfl) (fun K hK => ?_); go_simp; refine hK _ ?_; clear hK K
          refine NB.any_p 12 rfl (by kernel_rfl) (fun K hK => ?_); go_simp; refine hK _ ?_; clear hK K
          refine NB.any_end (by kernel_rfl) ?_
          obtain ⟨d0, d1, d2, d3, d4, d5, s0, s1, s2, s3, s4, s5⟩ := rw6 RC9
          go_wp2_with fail
          go_at_call 37
          refine (HNM.out _).mono ?_
          rintro e w' ⟨rfl, e2⟩
          subst w'
          go_wp2_with fail
          have RCF : Rw (((w9.setCell ⟨w.heap.size + 2, 1, none⟩ (.int .i64 (k : Int))).setCell ⟨w.heap.size + 2, 2, none⟩ (.int .u64 (M : Int))).setCell ⟨w.heap.size + 2, 4, none⟩ (.string ⟨B.toArray⟩)) (w.heap.size + 2) [.int .i64 (at_ : Int), .int .i64 (k : Int), .int .u64 (M : Int), .int .u64 (T : Int), .string ⟨B.toArray⟩, .int .i64 e] 53 := ((RC9.set 1 _).set 2 _).set 4 _
          have RAF := ((RA9.other (g' := w.heap.size + 2) (by omega) 1 (.int .i64 (k : Int))).other (g' := w.heap.size + 2) (by omega) 2 (.int .u64 (M : Int))).other (g' := w.heap.size + 2) (by omega) 4 (.string ⟨B.toArray⟩)
          have RBF := ((RB9.other (g' := w.heap.size + 2) (by omega) 1 (.int .i64 (k : Int))).other (g' := w.heap.size + 2) (by omega) 2 (.int .u64 (M : Int))).other (g' := w.heap.size + 2) (by omega) 4 (.string ⟨B.toArray⟩)
          have BF : Below w.heap.size w (((w9.setCell ⟨w.heap.size + 2, 1, none⟩ (.int .i64 (k : Int))).setCell ⟨w.heap.size + 2, 2, none⟩ (.int .u64 (M : Int))).setCell ⟨w.heap.size + 2, 4, none⟩ (.string ⟨B.toArray⟩)) := ((B9.setCell (p := ⟨w.heap.size + 2, 1, none⟩) (by simp) _).setCell (p := ⟨w.heap.size + 2, 2, none⟩) (by simp) _).setCell (p := ⟨w.heap.size + 2, 4, none⟩) (by simp) _
          have hst : stepC n D (k + 1) = ⟨at_, (k : Int), M, T, B, e⟩ := by
            rw [stepC_succ, HC.out, HRD.out, lookC, if_pos (by rw [hW, HM.out]; simpa using HTK.out), HM.out, HTC.out, HB.out]
          exact ⟨⟨k + 1, by omega, by simp, by rw [hst]; exact RCF, RAF, RBF, BF⟩, by simp [intOf]; omega⟩
        have hnd : decide (now < 0) = false := by simpa using hneg
        by_cases htk : turn < M
        · have htki : (turn : Int) < (M : Int) := by omega
          have HTK := Go.Lib.hid htk
          go_wp2_with fail
          go_at_call 38
          refine (HRG.out _).mono ?_
          rintro e8 w8 ⟨rfl, hb8⟩
          have RA8 := RA7.below hb8
          have RB8 := RB7.below hb8
          have RC8 := RC7.below hb8
          have B8 := bel B7 hb8 B7.size
          clear RA7 RB7 RC7 B7 hb8
          go_wp2_with fail
          refine NB.wp_region_m (by kernel_rfl) ?_
          have RA9 := RA8.below (Below.refl _ w8).drew
          have RB9 := RB8.below (Below.refl _ w8).drew
          have RC9 := RC8.below (Below.refl _ w8).drew
          have B9 : Below w.heap.size w w8.drew := B8.drew
          clear RA8 RB8 RC8 B8
          generalize w8.drew = w9 at *
          have c1 := RC9.cell 1 _ rfl
          have c2 := RC9.cell 2 _ rfl
          refine NB.any_p 0 rfl (by kernel_rfl) (fun K hK => ?_); go_simp; refine hK _ ?_; clear hK K
          refine NB.any_p 1 rfl (by kernel_rfl) (fun K hK => ?_); go_simp; refine hK _ ?_; clear hK K
          refine NB.any_p 2 rfl (by kernel_rfl) (fun K hK => ?_); go_simp; refine hK _ ?_; clear hK K
          refine NB.any_r 3 rfl (by kernel_rfl) rfl _ (fun w' hw' => NB.run_op_load rfl rfl Try.underlying3 rfl (c1) hw') (fun K hK => ?_); go_simp; refine hK _ ?_; clear hK K
          refine NB.any_p 4 rfl (by kernel_rfl) (fun K hK => ?_); go_simp; refine hK _ ?_; clear hK K
          refine NB.any_p 5 rfl (by kernel_rfl) (fun K hK => ?_); go_simp; refine hK _ ?_; clear hK K
          refine NB.any_p 6 rfl (by kernel_rfl) (fun K hK => ?_); go_simp; refine hK _ ?_; clear hK K
          refine NB.any_p 8 rfl (by kernel_rfl) (fun K hK => ?_); go_simp; refine hK _ ?_; clear hK K
          refine NB.any_r 9 rfl (by kernel_rfl) rfl _ (fun w' hw' => NB.run_op_load rfl rfl Try.underlying33 rfl (c2) hw') (fun K hK => ?_); go_simp; refine hK _ ?_; clear hK K
          refine NB.any_e 7 rfl (by kernel_rfl) (fun K hK => ?_); unfold NB.moves; go_simp; refine (HNM.out _).mono ?_; rintro e w' ⟨rfl, e2⟩; subst w'; refine ⟨_, rfl, Below.refl _ _, hK _ _ ?_⟩; clear hK K
          refine NB.any_p 10 rfl (by kernel_rfl) (fun K hK => ?_); go_simp; refine hK _ ?_; clear hK K
          refine NB.any_p 11 rfl (by kernel_rfl) (fun K hK => ?_); go_simp; refine hK _ ?_; clear hK K
          refine NB.any_p 12 rfl (by kernel_rfl) (fun K hK => ?_); go_simp; refine hK _ ?_; clear hK K
          refine NB.any_end (by kernel_rfl) ?_
          obtain ⟨d0, d1, d2, d3, d4, d5, s0, s1, s2, s3, s4, s5⟩ := rw6 RC9
          go_wp2_with fail
          go_at_call 37
          refine (HNM.out _).mono ?_
          rintro e w' ⟨rfl, e2⟩
          subst w'
          go_wp2_with fail
          have RCF : Rw (((w9.setCell ⟨w.heap.size + 2, 1, none⟩ (.int .i64 (k : Int))).setCell ⟨w.heap.size + 2, 2, none⟩ (.int .u64 (M : Int))).setCell ⟨w.heap.size + 2, 4, none⟩ (.string ⟨B.toArray⟩)) (w.heap.size + 2) [.int .i64 (at_ : Int), .int .i64 (k : Int), .int .u64 (M : Int), .int .u64 (T : Int), .string ⟨B.toArray⟩, .int .i64 e] 53 := ((RC9.set 1 _).set 2 _).set 4 _
          have RAF := ((RA9.other (g' := w.heap.size + 2) (by omega) 1 (.int .i64 (k : Int))).other (g' := w.heap.size + 2) (by omega) 2 (.int .u64 (M : Int))).other (g' := w.heap.size + 2) (by omega) 4 (.string ⟨B.toArray⟩)
          have RBF := ((RB9.other (g' := w.heap.size + 2) (by omega) 1 (.int .i64 (k : Int))).other (g' := w.heap.size + 2) (by omega) 2 (.int .u64 (M : Int))).other (g' := w.heap.size + 2) (by omega) 4 (.string ⟨B.toArray⟩)
          have BF : Below w.heap.size w (((w9.setCell ⟨w.heap.size + 2, 1, none⟩ (.int .i64 (k : Int))).setCell ⟨w.heap.size + 2, 2, none⟩ (.int .u64 (M : Int))).setCell ⟨w.heap.size + 2, 4, none⟩ (.string ⟨B.toArray⟩)) := ((B9.setCell (p := ⟨w.heap.size + 2, 1, none⟩) (by simp) _).setCell (p := ⟨w.heap.size + 2, 2, none⟩) (by simp) _).setCell (p := ⟨w.heap.size + 2, 4, none⟩) (by simp) _
          have hst : stepC n D (k + 1) = ⟨at_, (k : Int), M, T, B, e⟩ := by
            rw [stepC_succ, HC.out, HRD.out, lookC, if_pos (by rw [hW, HM.out]; simpa using HTK.out), HM.out, HTC.out, HB.out]
          exact ⟨⟨k + 1, by omega, by simp, by rw [hst]; exact RCF, RAF, RBF, BF⟩, by simp [intOf]; omega⟩
        · have htki : ¬ (turn : Int) < (M : Int) := by omega
          have HTK : Hid ((wholeL X && decide (turn < num8 X)) = false) := Go.Lib.hid (by rw [HM.out]; simp [htk])
          go_wp2_with fail
          go_at_call 38
          refine (HRG.out _).mono ?_
          rintro e8 w8 ⟨rfl, hb8⟩
          have RA8 := RA7.below hb8
          have RB8 := RB7.below hb8
          have RC8 := RC7.below hb8
          have B8 := bel B7 hb8 B7.size
          clear RA7 RB7 RC7 B7 hb8
          go_wp2_with fail
          refine NB.wp_region_m (by kernel_rfl) ?_
          have RA9 := RA8.below (Below.refl _ w8).drew
          have RB9 := RB8.below (Below.refl _ w8).drew
          have RC9 := RC8.below (Below.refl _ w8).drew
          have B9 : Below w.heap.size w w8.drew := B8.drew
          clear RA8 RB8 RC8 B8
          generalize w8.drew = w9 at *
          have c1 := RC9.cell 1 _ rfl
          have c2 := RC9.cell 2 _ rfl
          refine NB.any_p 0 rfl (by kernel_rfl) (fun K hK => ?_); go_simp; refine hK _ ?_; clear hK K
          refine NB.any_p 1 rfl (by kernel_rfl) (fun K hK => ?_); go_simp; refine hK _ ?_; clear hK K
          refine NB.any_p 2 rfl (by kernel_rfl) (fun K hK => ?_); go_simp; refine hK _ ?_; clear hK K
          refine NB.any_r 3 rfl (by kernel_rfl) rfl _ (fun w' hw' => NB.run_op_load rfl rfl Try.underlying3 rfl (c1) hw') (fun K hK => ?_); go_simp; refine hK _ ?_; clear hK K
          refine NB.any_p 4 rfl (by kernel_rfl) (fun K hK => ?_); go_simp; refine hK _ ?_; clear hK K
          refine NB.any_p 5 rfl (by kernel_rfl) (fun K hK => ?_); go_simp; refine hK _ ?_; clear hK K
          refine NB.any_p 6 rfl (by kernel_rfl) (fun K hK => ?_); go_simp; refine hK _ ?_; clear hK K
          refine NB.any_p 8 rfl (by kernel_rfl) (fun K hK => ?_); go_simp; refine hK _ ?_; clear hK K
          refine NB.any_r 9 rfl (by kernel_rfl) rfl _ (fun w' hw' => NB.run_op_load rfl rfl Try.underlying33 rfl (c2) hw') (fun K hK => ?_); go_simp; refine hK _ ?_; clear hK K
          refine NB.any_e 7 rfl (by kernel_rfl) (fun K hK => ?_); unfold NB.moves; go_simp; refine (HNM.out _).mono ?_; rintro e w' ⟨rfl, e2⟩; subst w'; refine ⟨_, rfl, Below.refl _ _, hK _ _ ?_⟩; clear hK K
          refine NB.any_p 10 rfl (by kernel_rfl) (fun K hK => ?_); go_simp; refine hK _ ?_; clear hK K
          refine NB.any_p 11 rfl (by kernel_rfl) (fun K hK => ?_); go_simp; refine hK _ ?_; clear hK K
          refine NB.any_p 12 rfl (by kernel_rfl) (fun K hK => ?_); go_simp; refine hK _ ?_; clear hK K
          refine NB.any_end (by kernel_rfl) ?_
          go_wp2_with fail
          have hst : stepC n D (k + 1) = ⟨at_, now, turn, T, b, e⟩ := by
            rw [stepC_succ, HC.out, HRD.out, lookC, if_neg (by have := HTK.out; simpa using this), HTC.out]
          exact ⟨⟨k + 1, by omega, by simp, by rw [hst]; exact RC9, RA9, RB9, B9⟩, by simp [intOf]; omega⟩
    · obtain rfl : k = 2 := by omega
      obtain ⟨x0, x1, x2, x3, x4, x5, _, _, _, _, _, _⟩ := rw6 RC
      obtain ⟨y0, y1, y2, y3, y4, y5, v0, v1, v2, v3, v4, v5⟩ := rw6 RB
      have hz := RB.lt
      go_wp2_with fail
      refine bodyPost_ret (v := .tuple #[cV ⟨at_, now, turn, top, b, e⟩, .int .i64 0]) (by simp [results, Try.results19, go_sem, cV, y0, y1, y2, y3, y4, y5, hz]) rfl ⟨by rw [hcc], ?_⟩
      iterate 6 refine Below.setCell ?_ (by simp) _
      exact hB
end Go.Proofs.Ytcdapjfaekamkaa
