/- The law MsgKinds: joined. -/
import Derived.Test.YtadgokegjmigoaaDoorMvl
namespace Go.Proofs.YtadgokegjmigoaaDoor
open Go.RowKit Go.Shelf
theorem law_mkinds (w : World) (hT : Tb w) (kind wh : Int) (_hk : (Lit.int .i64 kind).wf = true) (hw : (Lit.int .u8 wh).wf = true) :
    Calls Tryd.prog 6 #[.int .i64 kind, .int .u8 wh] w fun e w' => e = .returned (.bool true) ∧ Below w.heap.size w w' := by
  have hb : 0 ≤ wh ∧ wh < 256 := by
    obtain ⟨x, rfl⟩ : ∃ K : UInt8, wh = (K.toNat : Int) := ⟨UInt8.ofNat wh.toNat, (NB.u8_of_wf hw).symm⟩
    have := x.toNat_lt
    omega
  obtain ⟨w0, w1⟩ := hb
  have hm : wh % 10 = 0 ∨ wh % 10 = 1 ∨ wh % 10 = 2 ∨ wh % 10 = 3 ∨ wh % 10 = 4 ∨ wh % 10 = 5 ∨ wh % 10 = 6 ∨ wh % 10 = 7 ∨ wh % 10 = 8 ∨ wh % 10 = 9 := by omega
  by_cases h1 : 1 ≤ kind
  · by_cases h2 : kind ≤ 18
    · obtain ⟨kk, rfl⟩ := Int.eq_ofNat_of_zero_le (show 0 ≤ kind by omega)
      have l := strK_len kk (by omega)
      have c := mK_in kk (by omega) (by omega)
      rcases hm with h | h | h | h | h | h | h | h | h | h
      · exact kinds_B0 w hT _ wh w0 w1 h _ _ l kk rfl (by omega) (by omega) rfl rfl (c 0 (by omega))
      · exact kinds_B1 w hT _ wh w0 w1 h _ _ l kk rfl (by omega) (by omega) rfl rfl (c 1 (by omega))
      · exact kinds_B2 w hT _ wh w0 w1 h _ _ l kk rfl (by omega) (by omega) rfl rfl (c 2 (by omega))
      · exact kinds_B3 w hT _ wh w0 w1 h _ _ l kk rfl (by omega) (by omega) rfl rfl (c 3 (by omega))
      · exact kinds_B4 w hT _ wh w0 w1 h _ _ l kk rfl (by omega) (by omega) rfl rfl (c 4 (by omega))
      · exact kinds_B5 w hT _ wh w0 w1 h _ _ l kk rfl (by omega) (by omega) rfl rfl (c 5 (by omega))
      · exact kinds_B6 w hT _ wh w0 w1 h _ _ l kk rfl (by omega) (by omega) rfl rfl (c 6 (by omega))
      · exact kinds_B7 w hT _ wh w0 w1 h _ _ l kk rfl (by omega) (by omega) rfl rfl (c 7 (by omega))
      · exact kinds_B8 w hT _ wh w0 w1 h _ _ l kk rfl (by omega) (by omega) rfl rfl (c 8 (by omega))
      · exact kinds_B9 w hT _ wh w0 w1 h _ _ l kk rfl (by omega) (by omega) rfl rfl (c 9 (by omega))
    · have hk : known kind = false := by unfold known; simp; omega
      have c := fun f => (mK_out kind hk f).trans (show (1 : Int) = if (false : Bool) = true then 0 else 1 from rfl)
      rcases hm with h | h | h | h | h | h | h | h | h | h
      · exact kinds_A20 w hT _ wh w0 w1 h false [] (by simp) h1 h2 rfl rfl (c 0)
      · exact kinds_A21 w hT _ wh w0 w1 h false [] (by simp) h1 h2 rfl rfl (c 1)
      · exact kinds_A22 w hT _ wh w0 w1 h false [] (by simp) h1 h2 rfl rfl (c 2)
      · exact kinds_A23 w hT _ wh w0 w1 h false [] (by simp) h1 h2 rfl rfl (c 3)
      · exact kinds_A24 w hT _ wh w0 w1 h false [] (by simp) h1 h2 rfl rfl (c 4)
      · exact kinds_A25 w hT _ wh w0 w1 h false [] (by simp) h1 h2 rfl rfl (c 5)
      · exact kinds_A26 w hT _ wh w0 w1 h false [] (by simp) h1 h2 rfl rfl (c 6)
      · exact kinds_A27 w hT _ wh w0 w1 h false [] (by simp) h1 h2 rfl rfl (c 7)
      · exact kinds_A28 w hT _ wh w0 w1 h false [] (by simp) h1 h2 rfl rfl (c 8)
      · exact kinds_A29 w hT _ wh w0 w1 h false [] (by simp) h1 h2 rfl rfl (c 9)
  · have hk : known kind = false := by unfold known; simp; omega
    have c := fun f => (mK_out kind hk f).trans (show (1 : Int) = if (false : Bool) = true then 0 else 1 from rfl)
    rcases hm with h | h | h | h | h | h | h | h | h | h
    · exact kinds_A10 w hT _ wh w0 w1 h false [] (by simp) h1 rfl rfl (c 0)
    · exact kinds_A11 w hT _ wh w0 w1 h false [] (by simp) h1 rfl rfl (c 1)
    · exact kinds_A12 w hT _ wh w0 w1 h false [] (by simp) h1 rfl rfl (c 2)
    · exact kinds_A13 w hT _ wh w0 w1 h false [] (by simp) h1 rfl rfl (c 3)
    · exact kinds_A14 w hT _ wh w0 w1 h false [] (by simp) h1 rfl rfl (c 4)
    · exact kinds_A15 w hT _ wh w0 w1 h false [] (by simp) h1 rfl rfl (c 5)
    · exact kinds_A16 w hT _ wh w0 w1 h false [] (by simp) h1 rfl rfl (c 6)
    · exact kinds_A17 w hT _ wh w0 w1 h false [] (by simp) h1 rfl rfl (c 7)
    · exact kinds_A18 w hT _ wh w0 w1 h false [] (by simp) h1 rfl rfl (c 8)
    · exact kinds_A19 w hT _ wh w0 w1 h false [] (by simp) h1 rfl rfl (c 9)
end Go.Proofs.YtadgokegjmigoaaDoor
