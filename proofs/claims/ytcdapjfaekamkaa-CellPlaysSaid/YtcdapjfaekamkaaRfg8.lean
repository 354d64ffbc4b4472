/- Is a disk the reference's? Walked: of the same disk it says yes. -/
import Derived.Test.YtcdapjfaekamkaaRff
namespace Go.Proofs.Ytcdapjfaekamkaa
open Go.RowKit
open Go.NB (Rd Dk Kp Stp Off Dis)

theorem read_len {D : Dk} (h64 : ∀ b ∈ D.l, b.length = 64) (hw : ∀ x ∈ D.waits, x.2.length = 64 ∧ x.1 < D.l.length) (i : Int) : (D.read i).1.length ≤ 64 := by
  unfold Dk.read
  split
  · simp
  · rename_i ha
    have ha : D.at_ i = 0 := by simpa using ha
    obtain ⟨h0, h1⟩ := NB.at_zero ha
    have hN : i.toNat < D.l.length := by omega
    have hb : (D.l.getD i.toNat []).length = 64 := by
      rw [List.getD_eq_getElem?_getD, List.getElem?_eq_getElem hN]; exact h64 _ (List.getElem_mem hN)
    have hsee : ∀ (ws : List (Nat × List UInt8)) (b : List UInt8), b.length = 64 → (∀ x ∈ ws, x.2.length = 64) → (Dk.see b ws i.toNat).length = 64 := by
      intro ws
      induction ws with
      | nil => intro b hb _; exact hb
      | cons x ws ih =>
        intro b hb hx
        refine ih _ ?_ (fun y hy => hx y (List.mem_cons_of_mem _ hy))
        show (if x.1 = i.toNat then x.2 else b).length = 64
        split
        · exact hx x List.mem_cons_self
        · exact hb
    exact Nat.le_of_eq (hsee D.waits _ hb (fun x hx => (hw x hx).1))
set_option maxRecDepth 100000 in
set_option maxHeartbeats 4000000 in
theorem alike_any (w : World) (base p : Nat) (F : Nat → Prop) (D : Dk) (v : Value) (hD : HasD w base p F D) (hR : RefD w v D) (hwn : D.waits.length ≤ 100000) :
    Calls Try.prog 26 #[.pointer (some ⟨p, 0, none⟩), v] w fun e w' => e = .returned (.bool true) ∧ Below w.heap.size w w' := by
  have hln : D.l.length ≤ 65536 := by
    obtain ⟨bl, vW, hd, _⟩ := hD
    exact hd.n
  obtain ⟨a1, c1, a2, c2, rfl, h1, h2⟩ := hR
  have hbd1 := h1.bound
  have hbd2 := h2.bound
  have hrl := read_len hD.l64 hD.w64
  have R1 := one_rw w (.slice a1 D.l.length c1) (.slice a2 D.waits.length c2) (.int .i64 D.left) (.bool D.down) 49
  have hdd : (D.down != D.down) = false := by simp
  unfold rdV
  go_enter Try.func26, Try.ntmps26
  go_wp2_with fail
  have B1 := oneB w (.cells #[.slice a1 D.l.length c1, .slice a2 D.waits.length c2, .int .i64 D.left, .bool D.down] 49)
  generalize w.alloc (.cells #[.slice a1 D.l.length c1, .slice a2 D.waits.length c2, .int .i64 D.left, .bool D.down] 49) = w1 at *
  refine NB.wp_region_m (by kernel_rfl) ?_
  have R2 := R1.below (Below.refl _ w1).drew
  have B2 : Below w.heap.size w w1.drew := B1.drew
  clear R1 B1
  generalize w1.drew = w2 at *
  have x0 := R2.cell 0 _ rfl
  have x1 := R2.cell 1 _ rfl
  have x3 := R2.cell 3 _ rfl
  have hD2 := hD.below B2
  refine NB.any_p 0 rfl (by kernel_rfl) (fun K hK => ?_); go_simp; refine hK _ ?_; clear hK K
  refine NB.any_p 2 rfl (by kernel_rfl) (fun K hK => ?_); go_simp; refine hK _ ?_; clear hK K
  refine NB.any_r 3 rfl (by kernel_rfl) rfl _ (fun w' hw' => NB.run_op_load rfl rfl Try.underlying38 rfl (x0) hw') (fun K hK => ?_); go_simp; refine hK _ ?_; clear hK K
  refine NB.any_p 4 rfl (by kernel_rfl) (fun K hK => ?_); go_simp; refine hK _ ?_; clear hK K
  refine NB.any_e 1 rfl (by kernel_rfl) (fun K hK => ?_); unfold NB.moves; go_simp; refine (dlen_any _ _ _ _ _ hD2).mono ?_; rintro e w' ⟨rfl, e2⟩; subst w'; refine ⟨_, rfl, Below.refl _ _, hK _ _ ?_⟩; clear hK K
  refine NB.any_p 5 rfl (by kernel_rfl) (fun K hK => ?_); go_simp; refine hK _ ?_; clear hK K
  refine NB.any_p 6 rfl (by kernel_rfl) (fun K hK => ?_); go_simp; refine hK _ ?_; clear hK K
  refine NB.any_p 7 rfl (by kernel_rfl) (fun K hK => ?_); go_simp; refine hK _ ?_; clear hK K
  refine NB.any_p 9 rfl (by kernel_rfl) (fun K hK => ?_); go_simp; refine hK _ ?_; clear hK K
  refine NB.any_r 10 rfl (by kernel_rfl) rfl _ (fun w' hw' => NB.run_op_load rfl rfl Try.underlying4 rfl (x3) hw') (fun K hK => ?_); go_simp; refine hK _ ?_; clear hK K
  refine NB.any_e 8 rfl (by kernel_rfl) (fun K hK => ?_); unfold NB.moves; go_simp; refine (ddown_any _ _ _ _ _ hD2).mono ?_; rintro e w' ⟨rfl, e2⟩; subst w'; refine ⟨_, rfl, Below.refl _ _, hK _ _ ?_⟩; clear hK K
  refine NB.any_p 11 rfl (by kernel_rfl) (fun K hK => ?_); go_simp; refine hK _ ?_; clear hK K
  refine NB.any_p 12 rfl (by kernel_rfl) (fun K hK => ?_); go_simp; refine hK _ ?_; clear hK K
  refine NB.any_p 13 rfl (by kernel_rfl) (fun K hK => ?_); go_simp; refine hK _ ?_; clear hK K
  refine NB.any_p 14 rfl (by kernel_rfl) (fun K hK => ?_); go_simp; refine hK _ ?_; clear hK K
  refine NB.any_p 16 rfl (by kernel_rfl) (fun K hK => ?_); go_simp; refine hK _ ?_; clear hK K
  refine NB.any_r 17 rfl (by kernel_rfl) rfl _ (fun w' hw' => NB.run_op_load rfl rfl Try.underlying47 rfl (x1) hw') (fun K hK => ?_); go_simp; refine hK _ ?_; clear hK K
  refine NB.any_p 18 rfl (by kernel_rfl) (fun K hK => ?_); go_simp; refine hK _ ?_; clear hK K
  refine NB.any_e 15 rfl (by kernel_rfl) (fun K hK => ?_); unfold NB.moves; go_simp; refine (dwaits_any _ _ _ _ _ hD2).mono ?_; rintro e w' ⟨rfl, e2⟩; subst w'; refine ⟨_, rfl, Below.refl _ _, hK _ _ ?_⟩; clear hK K
  refine NB.any_p 19 rfl (by kernel_rfl) (fun K hK => ?_); go_simp; refine hK _ ?_; clear hK K
  refine NB.any_p 20 rfl (by kernel_rfl) (fun K hK => ?_); go_simp; refine hK _ ?_; clear hK K
  refine NB.any_end (by kernel_rfl) ?_
  go_wp2_with fail
  go_loopw [5] (fun x wr => ∃ z : Int, -1 ≤ z ∧ z ≤ (D.l.length : Int) + 1 ∧ x = .int .i64 z ∧ Rw wr w.heap.size [.slice a1 D.l.length c1, .slice a2 D.waits.length c2, .int .i64 D.left, .bool D.down] 49 ∧ Below w.heap.size w wr) (fun x _ => ((D.l.length : Int) + 1 - intOf x).toNat)
  case atStart => exact ⟨-1, by omega, by omega, rfl, R2, B2⟩
  case round =>
    clear R2 B2 hD2 x0 x1 x3
    obtain ⟨z, hz0, hz1, rfl, R2, B2⟩ := hrel
    have x0 := R2.cell 0 _ rfl
    by_cases hlt : z ≤ (D.l.length : Int)
    · have hD2 := hD.below B2
      have hrz := hrl z
      obtain ⟨X, e, hr⟩ : ∃ X e, D.read z = (X, e) := ⟨_, _, rfl⟩
      rw [hr] at hrz
      have HRL := Go.Lib.hid hrl
      clear hrl
      simp only at hrz
      have hrr := fun w1 hb => rread_any w1 a1 D.l.length c1 a2 D.waits.length c2 D z (Rd.below h1 hb) (Rd.below h2 hb) hln hwn
      rw [hr] at hrr
      unfold rdV strL at hrr
      simp only at hrr
      have HRR := Go.Lib.hid hrr
      have HR := Go.Lib.hid hr
      clear hrr hr
      go_wp2_with (first
        | (go_at_call 14; refine (dread_any _ _ _ _ _ z hD2 (by omega)).mono ?_; rw [HR.out]; rintro e5 w5 ⟨a5, k5, rfl, ho5, hb5⟩; have hr5 := (Off.fresh (F := fun _ => False) ho5 (fun _ h => h.elim)).rd; have B5 := bel B2 hb5 B2.size; have R5 := R2.below hb5; clear x0; obtain ⟨x0, x1, x2, x3, _, _, _, _⟩ := rw4 R5)
        | (go_at_call 36; refine (HRR.out w5 B5).mono ?_; rintro e6 w6 ⟨rfl, hb6⟩; have hr6 := Rd.below hr5 hb6; have B6 := bel B5 hb6 B5.size; have R6 := R5.below hb6)
        | (refine NB.wpList_conv_str rfl 23 9 (.tmp 50) rfl Try.underlying23 Try.underlying5 Try.underlying9 a5 _ k5 X rfl hr6 ?_))
      exact ⟨⟨z + 1, by omega, by omega, by simp, R6, B6⟩, by simp only [intOf]; omega⟩
    · go_wp2_with fail
      go_ret
      exact ⟨rfl, B2⟩
end Go.Proofs.Ytcdapjfaekamkaa
