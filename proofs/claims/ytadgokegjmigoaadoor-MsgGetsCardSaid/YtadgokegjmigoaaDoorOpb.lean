/- A bool as an argument. No program in sight. -/
import Derived.Test.YtadgokegjmigoaaDoorOpen
namespace Go.NB
open Go Go.ChangeShapes Go.WideShapes
theorem open_bool {H : Type} {enc : TypeId × Value → H} {P : Program} {w : World} {base b0 : Nat} {spare : Nat → Bool} {held : Bool} {r : Reach} {t : TypeId} {v : Value} {d : DataW H} {ps : List MemPlace} (ht : P.underlying t = some .bool) (hval : Value.okWide P w r b0 t v) (hd : DataW.Trod enc P w base spare held t v d ps) :
    ∃ b, v = .bool b ∧ d = .lit (.bool b) ∧ ps = [] := by
  obtain ⟨b, rfl⟩ := okWide_bool ht hval
  obtain ⟨fuel, hf⟩ := hd
  cases fuel with
  | zero => simp [DataW.trod] at hf
  | succ n =>
    simp [DataW.trod, Value.cells, ht] at hf
    obtain ⟨rfl, rfl⟩ := hf
    exact ⟨b, rfl, rfl, rfl⟩
end Go.NB
