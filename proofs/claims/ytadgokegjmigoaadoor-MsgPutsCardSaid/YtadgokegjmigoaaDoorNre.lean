/- The references on numbers, walked: what is put. -/
import Derived.Test.YtadgokegjmigoaaDoorNum
import Derived.Test.YtadgokegjmigoaaDoorRows
import Derived.Test.YtadgokegjmigoaaDoorAny
import Derived.Test.YtadgokegjmigoaaDoorSlc
namespace Go.Proofs.YtadgokegjmigoaaDoor
open Go.RowKit
open Go.NB (Rd digs encU encB)

/-- A string in whatever later world. -/
def StrB (w : World) (bs : List UInt8) (e : Ending) (w' : World) : Prop := e = .returned (.string ⟨bs.toArray⟩) ∧ Below w.heap.size w w'

set_option maxHeartbeats 1000000 in
theorem digits_any (n : Nat) : ∀ (x : Nat) (w : World), x < n → x < 18446744073709551616 → Calls Tryd.prog 46 #[.int .u64 (x : Int)] w (StrB w (digs x)) := by
  induction n with
  | zero => intro x w h; omega
  | succ n ih =>
    intro x w hn hx
    by_cases h0 : x = 0
    · subst h0
      have hz : (((0 : Nat) : Int) == 0) = true := rfl
      rw [NB.digs_zero]
      go_enter Tryd.func46, Tryd.ntmps46
      go_wp2_with fail
      go_ret
      exact ⟨rfl, Below.refl _ _⟩
    · have hz : ((x : Int) == 0) = false := by simp [h0]
      have hd := NB.digs_pos x h0
      have HD := Go.Lib.hid hd; clear hd
      have IH := Go.Lib.hid ih; clear ih
      have h1 : IntKind.u64.wrap ((x : Int) / 256) = ((x / 256 : Nat) : Int) := by rw [IntKind.wrap_u64]; omega
      have h2 : (x : Int).tmod 256 = ((x % 256 : Nat) : Int) := by rw [Int.tmod_eq_emod_of_nonneg (by omega)]; omega
      have h3 : IntKind.u8.wrap ((x % 256 : Nat) : Int) = ((UInt8.ofNat (x % 256)).toNat : Int) := by rw [IntKind.wrap_u8, UInt8.toNat_ofNat']; omega
      have hq : x / 256 < n := by omega
      have hq2 : x / 256 < 18446744073709551616 := by omega
      generalize hc : UInt8.ofNat (x % 256) = c at *
      generalize x / 256 = q at *
      generalize x % 256 = r at *
      clear hn h0 hx hc
      go_enter Tryd.func46, Tryd.ntmps46
      go_wp2_with fail
      refine NB.wp_region_m (by kernel_rfl) ?_
      have hB := (Below.refl w.heap.size w).drew
      generalize w.drew = v at *
      refine NB.any_p 0 rfl (by kernel_rfl) (fun K hK => ?_); go_simp; refine hK _ ?_; clear hK K
      refine NB.any_p 1 rfl (by kernel_rfl) (fun K hK => ?_); go_simp; refine hK _ ?_; clear hK K
      refine NB.any_p 3 rfl (by kernel_rfl) (fun K hK => ?_); go_simp; refine hK _ ?_; clear hK K
      refine NB.any_p 4 rfl (by kernel_rfl) (fun K hK => ?_); go_simp; refine hK _ ?_; clear hK K
      refine NB.any_p 5 rfl (by kernel_rfl) (fun K hK => ?_); go_simp; refine hK _ ?_; clear hK K
      clear h1 h2 h3
      have k1 : (1 : Nat) ≤ maxLen := by unfold maxLen; omega
      have h8 := NB.digs_le8 hq2
      have hsl : ¬ 9223372036854775807 < (digs q).length + 1 := by omega
      refine NB.any_e2 2 6 rfl rfl (by kernel_rfl) (fun K hK => ?_) (fun K hK => ?_)
      · unfold NB.moves
        go_simp
        refine (IH.out q v hq hq2).mono ?_
        rintro e w1 ⟨rfl, hb1⟩
        refine ⟨_, rfl, hb1, hK _ _ ?_⟩
        clear hK K
        refine NB.any_e 6 rfl (by kernel_rfl) (fun K hK => ?_); unfold NB.moves; go_simp; refine ⟨(Below.refl _ _).alloc (Nat.le_refl _) _, hK _ _ ?_⟩; clear hK K
        have r1 : NB.RdB (w1.alloc (.cells #[.int .u8 (c.toNat : Int)] 5)) (some ⟨w1.heap.size, 0, none⟩) 1 1 [c] := NB.rdB_lit (n := 1) [c] rfl rfl k1 rfl
        have B1 := hB.trans (hb1.mono hB.size)
        have B2 := B1.alloc B1.size (.cells #[.int .u8 (c.toNat : Int)] 5)
        refine NB.any_r 7 rfl (by kernel_rfl) rfl _ (fun w' hw' => NB.run_op_conv_str Tryd.underlying22 Tryd.underlying5 Tryd.underlying9 rfl rfl (Rd.below r1 hw')) (fun K hK => ?_); go_simp; refine hK _ ?_; clear hK K
        refine NB.any_p 8 rfl (by kernel_rfl) (fun K hK => ?_); go_simp; refine hK _ ?_; clear hK K
        refine NB.any_p 9 rfl (by kernel_rfl) (fun K hK => ?_); go_simp; refine hK _ ?_; clear hK K
        refine NB.any_end (by kernel_rfl) ?_
        go_wp2_with fail
        go_ret
        exact ⟨by rw [HD.out]; simp, B2⟩
      · unfold NB.moves
        go_simp
        refine ⟨(Below.refl _ _).alloc (Nat.le_refl _) _, hK _ _ ?_⟩
        clear hK K
        have r1 : NB.RdB (v.alloc (.cells #[.int .u8 (c.toNat : Int)] 5)) (some ⟨v.heap.size, 0, none⟩) 1 1 [c] := NB.rdB_lit (n := 1) [c] rfl rfl k1 rfl
        have B1 := hB.alloc hB.size (.cells #[.int .u8 (c.toNat : Int)] 5)
        refine NB.any_r 7 rfl (by kernel_rfl) rfl _ (fun w' hw' => NB.run_op_conv_str Tryd.underlying22 Tryd.underlying5 Tryd.underlying9 rfl rfl (Rd.below r1 hw')) (fun K hK => ?_); go_simp; refine hK _ ?_; clear hK K
        refine NB.any_e 2 rfl (by kernel_rfl) (fun K hK => ?_); unfold NB.moves; go_simp; refine (IH.out q _ hq hq2).mono ?_; rintro e w1 ⟨rfl, hb1⟩; refine ⟨_, rfl, (by simpa using hb1), hK _ _ ?_⟩; clear hK K
        have B2 := B1.trans (hb1.mono B1.size)
        refine NB.any_p 8 rfl (by kernel_rfl) (fun K hK => ?_); go_simp; refine hK _ ?_; clear hK K
        refine NB.any_p 9 rfl (by kernel_rfl) (fun K hK => ?_); go_simp; refine hK _ ?_; clear hK K
        refine NB.any_end (by kernel_rfl) ?_
        go_wp2_with fail
        go_ret
        exact ⟨by rw [HD.out]; simp, B2⟩

set_option maxHeartbeats 1000000 in
theorem ruintR_any (w : World) (x : Nat) (hx : x < 18446744073709551616) : Calls Tryd.prog 21 #[.int .u64 (x : Int)] w (StrB w (encU x)) := by
  have h8 := NB.digs_le8 hx
  have hE : encU x = [UInt8.ofNat (digs x).length] ++ digs x := rfl
  have HE := Go.Lib.hid hE; clear hE
  have h3 : IntKind.u8.wrap ((digs x).length : Int) = ((UInt8.ofNat (digs x).length).toNat : Int) := by rw [IntKind.wrap_u8, UInt8.toNat_ofNat']; omega
  have h4 : ((UInt8.ofNat (digs x).length).toNat : Int) = ((digs x).length : Int) := by rw [UInt8.toNat_ofNat']; omega
  have H4 := Go.Lib.hid h4; clear h3 h4
  have k1 : (1 : Nat) ≤ maxLen := by unfold maxLen; omega
  go_enter Tryd.func21, Tryd.ntmps21
  go_wp2_with (first
    | (go_at_call 46; refine (digits_any (x + 1) x _ (by omega) hx).mono ?_; rintro e w1 ⟨rfl, hb1⟩)
    | (refine NB.wpList_conv_str rfl 22 9 (.tmp 9) rfl Tryd.underlying22 Tryd.underlying5 Tryd.underlying9 (some ⟨w1.heap.size, 0, none⟩) 1 1 [UInt8.ofNat (digs x).length] rfl (NB.rdB_lit (n := 1) [UInt8.ofNat (digs x).length] (by rw [List.map_cons, List.map_nil, NB.u8v, H4.out]) rfl k1 rfl) ?_))
  go_ret
  exact ⟨by rw [HE.out]; simp, hb1.alloc hb1.size _⟩

end Go.Proofs.YtadgokegjmigoaaDoor
