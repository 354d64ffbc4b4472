/- Reading what was put, piece by piece: plain laws. No program in sight. -/
import Derived.Test.YtadgokegjmigoaaDoorNump
namespace Go.NB
open Go Go.RowKit

/-- What P reads is what 'enc' puts, for what may be. -/
structure Cdc {α : Type} (P : Rr → Rr × α) (ok : α → Prop) (enc : α → List UInt8) : Prop where
  stick : ∀ r : Rr, r.e ≠ 0 → (P r).1 = r
  put : ∀ v, ok v → ∀ t, P ⟨enc v ++ t, 0⟩ = (⟨t, 0⟩, v)
  cut : ∀ v, ok v → ∀ m, m < (enc v).length → (P ⟨(enc v).take m, 0⟩).1.e = 10
  inv : ∀ b, (P ⟨b, 0⟩).1.e = 0 → ok (P ⟨b, 0⟩).2 ∧ b = enc (P ⟨b, 0⟩).2 ++ (P ⟨b, 0⟩).1.b

/-- A number from one on, below another one. -/
def Rr.small (r : Rr) (least below : Nat) : Rr × Nat :=
  if r.uint.1.e = 0 ∧ (r.uint.2 < least ∨ below ≤ r.uint.2) then (⟨r.uint.1.b, 11⟩, 0) else r.uint

section
variable {α β : Type} {P : Rr → Rr × α} {Q : α → Rr → Rr × β} {ok : α → Prop} {enc : α → List UInt8} {okQ : α → β → Prop} {encQ : α → β → List UInt8}

theorem cdc_uint : Cdc Rr.uint (fun x => x < 18446744073709551616) encU where
  stick r h := by rw [Rr.uint_err h]
  put v h t := Rr.uint_enc h t
  cut v h m hm := (Rr.uint_short h m hm).1
  inv b h := by
    rcases Rr.uint_cases b with ⟨x, l, hx, e, hu⟩ | ⟨h1, _⟩
    · rw [hu]; exact ⟨hx, e⟩
    · exact absurd h h1

theorem small_err {r : Rr} (h : r.e ≠ 0) (least below : Nat) : r.small least below = (r, 0) := by
  unfold Rr.small
  rw [Rr.uint_err h, if_neg (by intro h'; exact h h'.1)]

theorem cdc_small (least below : Nat) (hb : below ≤ 18446744073709551616) : Cdc (fun r => r.small least below) (fun x => least ≤ x ∧ x < below) encU where
  stick r h := by simp only [small_err h]
  put v h t := by
    have hu := Rr.uint_enc (x := v) (by omega) t
    simp only [Rr.small, hu]
    rw [if_neg (by omega)]
  cut v h m hm := by
    have hu := (Rr.uint_short (x := v) (by omega) m hm).1
    simp only [Rr.small]
    rw [if_neg (by rw [hu]; omega)]
    exact hu
  inv b h := by
    rcases Rr.uint_cases b with ⟨x, l, hx, e, hu⟩ | ⟨h1, h2⟩
    · simp only [Rr.small, hu] at h ⊢
      by_cases hc : x < least ∨ below ≤ x
      · rw [if_pos ⟨trivial, hc⟩] at h; simp at h
      · rw [if_neg (by intro h'; exact hc h'.2)]
        exact ⟨by omega, e⟩
    · simp only [Rr.small] at h
      rw [if_neg (by intro h'; exact h1 h'.1)] at h
      exact absurd h h1

/-- Nothing at all. -/
theorem cdc_pure (v : α) : Cdc (fun r => (r, v)) (fun u => u = v) (fun _ => []) where
  stick r _ := rfl
  put u h t := by subst h; rfl
  cut u _ m hm := absurd hm (by simp)
  inv b _ := ⟨rfl, rfl⟩

/-- One behind the other. -/
def both (P : Rr → Rr × α) (Q : α → Rr → Rr × β) (r : Rr) : Rr × α × β := ((Q (P r).2 (P r).1).1, ((P r).2, (Q (P r).2 (P r).1).2))

theorem Cdc.both (hP : Cdc P ok enc) (hs : ∀ a (r : Rr), r.e ≠ 0 → (Q a r).1 = r) (hQ : ∀ a, ok a → Cdc (Q a) (okQ a) (encQ a)) :
    Cdc (both P Q) (fun v => ok v.1 ∧ okQ v.1 v.2) (fun v => enc v.1 ++ encQ v.1 v.2) where
  stick r h := by
    simp only [NB.both, hP.stick r h]
    exact hs _ r h
  put v h t := by
    simp only [NB.both, List.append_assoc, hP.put v.1 h.1, (hQ v.1 h.1).put v.2 h.2]
  cut v h m hm := by
    simp only [NB.both]
    by_cases h1 : m < (enc v.1).length
    · have hc := hP.cut v.1 h.1 m h1
      rw [List.take_append_of_le_length (by omega), hs _ _ (by rw [hc]; decide)]
      exact hc
    · rw [List.take_append, List.take_of_length_le (by omega), hP.put v.1 h.1]
      rw [List.length_append] at hm
      exact (hQ v.1 h.1).cut v.2 h.2 _ (by omega)
  inv b h := by
    simp only [NB.both] at h ⊢
    by_cases h0 : (P ⟨b, 0⟩).1.e = 0
    · obtain ⟨h1, h2⟩ := hP.inv b h0
      have he := Rr.eta h0
      rw [he] at h
      obtain ⟨h3, h4⟩ := (hQ _ h1).inv _ h
      rw [he]
      refine ⟨⟨h1, h3⟩, ?_⟩
      rw [List.append_assoc, ← h4]
      exact h2
    · rw [hs _ _ h0] at h
      exact absurd h h0

theorem Cdc.both_stick (hP : Cdc P ok enc) (hs : ∀ a (r : Rr), r.e ≠ 0 → (Q a r).1 = r) (r : Rr) (h : r.e ≠ 0) : (NB.both P Q r).1 = r := by
  simp only [NB.both, hP.stick r h]; exact hs _ r h

/-- So many. -/
def rep (P : Rr → Rr × α) : Nat → Rr → Rr × List α
  | 0, r => (r, [])
  | n + 1, r => ((rep P n (P r).1).1, (P r).2 :: (rep P n (P r).1).2)

theorem rep_stick (hs : ∀ r : Rr, r.e ≠ 0 → (P r).1 = r) : ∀ (n : Nat) (r : Rr), r.e ≠ 0 → (rep P n r).1 = r
  | 0, _, _ => rfl
  | n + 1, r, h => by simp only [rep]; rw [hs r h]; exact rep_stick hs n r h

theorem rep_len (P : Rr → Rr × α) : ∀ (n : Nat) (r : Rr), (rep P n r).2.length = n
  | 0, _ => rfl
  | n + 1, r => by simp [rep, rep_len P n]

/-- One more, behind them. -/
theorem rep_snoc (P : Rr → Rr × α) : ∀ (n : Nat) (r : Rr), rep P (n + 1) r = ((P (rep P n r).1).1, (rep P n r).2 ++ [(P (rep P n r).1).2])
  | 0, _ => rfl
  | n + 1, r => by
    rw [rep, rep_snoc P n]
    rfl

theorem Cdc.rep (hP : Cdc P ok enc) : ∀ n : Nat, Cdc (rep P n) (fun l => l.length = n ∧ ∀ x ∈ l, ok x) (fun l => l.flatMap enc)
  | 0 =>
    { stick := fun _ _ => rfl
      put := fun v h t => by
        have : v = [] := List.eq_nil_of_length_eq_zero h.1
        subst this; rfl
      cut := fun v h m hm => by
        have : v = [] := List.eq_nil_of_length_eq_zero h.1
        subst this; simp at hm
      inv := fun b _ => ⟨⟨rfl, by simp [NB.rep]⟩, rfl⟩ }
  | n + 1 => by
    have hb := hP.both (Q := fun _ => NB.rep P n) (fun _ r h => rep_stick hP.stick n r h) (fun _ _ => Cdc.rep hP n)
    have e : ∀ r, NB.rep P (n + 1) r = ((NB.both P (fun _ => NB.rep P n) r).1, (NB.both P (fun _ => NB.rep P n) r).2.1 :: (NB.both P (fun _ => NB.rep P n) r).2.2) := fun _ => rfl
    refine ⟨fun r h => by rw [e]; exact hb.stick r h, fun v h t => ?_, fun v h m hm => ?_, fun b h => ?_⟩
    · cases v with
      | nil => simp at h
      | cons x l =>
        have := hb.put (x, l) ⟨h.2 x (by simp), by simpa using h.1, fun y hy => h.2 y (by simp [hy])⟩ t
        rw [e, List.flatMap_cons, this]
    · cases v with
      | nil => simp at h
      | cons x l =>
        rw [e, List.flatMap_cons]
        exact hb.cut (x, l) ⟨h.2 x (by simp), by simpa using h.1, fun y hy => h.2 y (by simp [hy])⟩ m (by simpa using hm)
    · rw [e] at h ⊢
      obtain ⟨⟨h1, h2, h3⟩, h4⟩ := hb.inv b h
      refine ⟨⟨by simp only [List.length_cons, h2], ?_⟩, ?_⟩
      · intro x hx
        rcases List.mem_cons.1 hx with rfl | hx
        · exact h1
        · exact h3 x hx
      · rw [List.flatMap_cons]; exact h4

/-- The same, in other words. -/
theorem Cdc.map (h : Cdc P ok enc) {P' : Rr → Rr × β} {ok' : β → Prop} {enc' : β → List UInt8} (f : α → β) (hP : ∀ r, P' r = ((P r).1, f (P r).2)) (h1 : ∀ v, ok v → ok' (f v) ∧ enc' (f v) = enc v) (h2 : ∀ v, ok' v → ∃ u, ok u ∧ f u = v) : Cdc P' ok' enc' where
  stick r hr := by rw [hP]; exact h.stick r hr
  put v hv t := by
    obtain ⟨u, hu, rfl⟩ := h2 v hv
    rw [hP, (h1 u hu).2, h.put u hu]
  cut v hv m hm := by
    obtain ⟨u, hu, rfl⟩ := h2 v hv
    rw [(h1 u hu).2] at hm ⊢
    rw [hP]
    exact h.cut u hu m hm
  inv b hb := by
    rw [hP] at hb ⊢
    obtain ⟨h3, h4⟩ := h.inv b hb
    refine ⟨(h1 _ h3).1, ?_⟩
    simp only
    rw [(h1 _ h3).2]
    exact h4
end

/-- How many there are, and they. -/
def cnt {α : Type} (below : Nat) (P : Rr → Rr × α) (r : Rr) : Rr × List α := rep P (r.small 0 below).2 (r.small 0 below).1
theorem Cdc.cnt {α : Type} {P : Rr → Rr × α} {ok : α → Prop} {enc : α → List UInt8} (hP : Cdc P ok enc) (below : Nat) (hb : below ≤ 18446744073709551616) :
    Cdc (cnt below P) (fun l => l.length < below ∧ ∀ x ∈ l, ok x) (fun l => encU l.length ++ l.flatMap enc) := by
  have h := (cdc_small 0 below hb).both (Q := fun n => NB.rep P n) (okQ := fun n l => l.length = n ∧ ∀ x ∈ l, ok x) (encQ := fun _ l => l.flatMap enc) (fun n r h => rep_stick hP.stick n r h) (fun n _ => hP.rep n)
  refine h.map (fun v => v.2) (fun r => rfl) (fun v hv => ?_) (fun l hl => ⟨(l.length, l), ⟨⟨Nat.zero_le _, hl.1⟩, rfl, hl.2⟩, rfl⟩)
  obtain ⟨⟨_, h1⟩, h2, h3⟩ := hv
  exact ⟨⟨by rw [h2]; exact h1, h3⟩, by simp only [h2]⟩
end Go.NB
