/- The reference on dedup, walked: Find, Note, Last. -/
import Derived.Test.YthemdfcokphjeaaDdb
import Derived.Test.YthemdfcokphjeaaRw
import Derived.Test.YthemdfcokphjeaaOpen
namespace Go.Proofs.Ythemdfcokphjeaa
open Go.RowKit
open Go.NB (Rd Kp Stp Off Dis Ent dhit dknown dat dlast dlstep B64 oneB dB Rw)

def psL (l : List Ent) : List Value := l.flatMap fun e => [.int .u64 (e.1 : Int), .int .u64 (e.2.1 : Int), .int .i64 e.2.2]
theorem ps_len (l : List Ent) : (psL l).length = l.length * 3 := by
  induction l with
  | nil => rfl
  | cons x l ih => rw [psL, List.flatMap_cons, List.length_append]; change 3 + (psL l).length = _; rw [ih]; simp only [List.length_cons]; omega
theorem ps_one (l : List Ent) : ∀ u ∈ psL l, u.oneCell' = true := by
  intro u hu
  simp only [psL, List.mem_flatMap] at hu
  obtain ⟨x, _, hx⟩ := hu
  simp at hx
  rcases hx with rfl | rfl | rfl <;> rfl
theorem ps_at (l : List Ent) : ∀ (k : Nat) (e : Ent), l[k]? = some e → (psL l)[k * 3]? = some (.int .u64 (e.1 : Int)) ∧ (psL l)[k * 3 + 1]? = some (.int .u64 (e.2.1 : Int)) ∧ (psL l)[k * 3 + 2]? = some (.int .i64 e.2.2) := by
  induction l with
  | nil => intro k e h; simp at h
  | cons y l ih =>
    intro k e h
    cases k with
    | zero =>
      simp at h
      subst h
      exact ⟨rfl, rfl, rfl⟩
    | succ k =>
      have := ih k e (by simpa using h)
      have e1 : psL (y :: l) = .int .u64 (y.1 : Int) :: .int .u64 (y.2.1 : Int) :: .int .i64 y.2.2 :: psL l := rfl
      rw [e1, show (k + 1) * 3 = k * 3 + 3 by omega]
      exact this
theorem ps_snoc (l : List Ent) (c s : Nat) (at_ : Int) : psL l ++ [.int .u64 (c : Int), .int .u64 (s : Int), .int .i64 at_] = psL (l ++ [(c, s, at_)]) := by simp [psL]
theorem slTP : NB.SlT Try.prog 53 60 (.agg #[.int .u64 0, .int .u64 0, .int .i64 0]) 3 24 :=
  ⟨Try.underlying53, info_parts (by kernel_rfl), rfl, by omega⟩

abbrev RdP (w : World) (a : Option Addr) (n c : Nat) (l : List Ent) : Prop := Rd 3 w a n c (psL l)
theorem RdP.size {w : World} {a : Option Addr} {n c : Nat} {l : List Ent} (h : RdP w a n c l) : l.length = n := by have := h.len; rw [ps_len] at this; omega
theorem RdP.at {w : World} {a : Option Addr} {n c : Nat} {l : List Ent} (h : RdP w a n c l) (k : Nat) (hk : k < n) :
    ∃ (b o x y : Nat) (z : Int), w.cell? ⟨b, o + k * 3, none⟩ = some (.int .u64 (x : Int)) ∧ w.cell? ⟨b, o + k * 3 + 1, none⟩ = some (.int .u64 (y : Int)) ∧ w.cell? ⟨b, o + k * 3 + 2, none⟩ = some (.int .i64 z) ∧ a = some ⟨b, o, none⟩ ∧ l[k]? = some (x, y, z) := by
  obtain ⟨b, o, e, hc⟩ := Rd.pos h (by omega)
  have hl := RdP.size h
  obtain ⟨⟨x, y, z⟩, hg⟩ : ∃ E, l[k]? = some E := ⟨_, List.getElem?_eq_getElem (by omega)⟩
  obtain ⟨h1, h2, h3⟩ := ps_at l k _ hg
  exact ⟨b, o, x, y, z, hc _ _ h1, by rw [Nat.add_assoc]; exact hc _ _ h2, by rw [Nat.add_assoc]; exact hc _ _ h3, e, hg⟩

/-- Which one it is. -/
def rfind (l : List Ent) (c s : Nat) : Int := match l.findIdx? (dhit c s) with | some i => (i : Int) | none => -1

theorem take_any {l : List Ent} {c s k : Nat} {e : Ent} (h : (l.take k).any (dhit c s) = false) (hk : l[k]? = some e) (he : dhit c s e = false) : (l.take (k + 1)).any (dhit c s) = false := by
  rw [List.take_add_one, hk, List.any_append, h]
  simp [he]
theorem rfind_hit {l : List Ent} {c s k : Nat} {e : Ent} (h : (l.take k).any (dhit c s) = false) (hk : l[k]? = some e) (he : dhit c s e = true) : rfind l c s = (k : Int) ∧ dknown l c s = true ∧ dat l c s = e.2.2 := by
  have hkl : k < l.length := by
    rcases Nat.lt_or_ge k l.length with h1 | h1
    · exact h1
    · rw [List.getElem?_eq_none h1] at hk; cases hk
  have hg : l[k] = e := by rw [List.getElem?_eq_getElem hkl] at hk; simpa using hk
  have hno : ∀ j, j < k → ∀ hj : j < l.length, dhit c s l[j] = false := fun j hj hjl => by
    have := List.any_eq_false.1 h l[j] (List.mem_take_iff_getElem.2 ⟨j, by omega, rfl⟩)
    simpa using this
  have h1 : l.findIdx? (dhit c s) = some k := by
    rw [List.findIdx?_eq_some_iff_getElem]
    refine ⟨hkl, by rw [hg]; exact he, fun j hj => by rw [hno j hj (by omega)]; simp⟩
  have h2 : l.find? (dhit c s) = some e := by
    rw [List.find?_eq_some_iff_getElem]
    exact ⟨he, k, hkl, hg, fun j hj => by rw [hno j hj (by omega)]; rfl⟩
  refine ⟨by unfold rfind; rw [h1], List.any_eq_true.2 ⟨e, List.mem_of_getElem? hk, he⟩, by unfold dat; rw [h2]; rfl⟩
theorem rfind_none {l : List Ent} {c s : Nat} (h : l.any (dhit c s) = false) : rfind l c s = -1 ∧ dknown l c s = false := by
  have : l.findIdx? (dhit c s) = none := by
    rw [List.findIdx?_eq_none_iff]
    intro x hx
    simpa using List.any_eq_false.1 h x hx
  exact ⟨by unfold rfind; rw [this], h⟩
theorem rfind_spec (l : List Ent) (c s : Nat) : (dknown l c s = true ∧ ∃ (k : Nat) (e : Ent), rfind l c s = (k : Int) ∧ l[k]? = some e ∧ dat l c s = e.2.2) ∨ (dknown l c s = false ∧ rfind l c s = -1) := by
  cases hf : l.findIdx? (dhit c s) with
  | none =>
    refine .inr ⟨?_, by unfold rfind; rw [hf]⟩
    rw [List.findIdx?_eq_none_iff] at hf
    exact List.any_eq_false.2 fun x hx => by simpa using hf x hx
  | some k =>
    obtain ⟨hk, he, hno⟩ := List.findIdx?_eq_some_iff_getElem.1 hf
    have := rfind_hit (l := l) (c := c) (s := s) (k := k) (e := l[k]) (List.any_eq_false.2 fun x hx => by
      obtain ⟨j, hj, rfl⟩ := List.mem_take_iff_getElem.1 hx
      exact hno j (by omega)) (List.getElem?_eq_getElem hk) he
    exact .inl ⟨this.2.1, k, l[k], this.1, List.getElem?_eq_getElem hk, this.2.2⟩

set_option maxHeartbeats 1000000 in
theorem rfind_any (w : World) (a : Option Addr) (n cp : Nat) (l : List Ent) (c s : Nat) (h : RdP w a n cp l) :
    Calls Try.prog 19 #[.slice a n cp, .int .u64 (c : Int), .int .u64 (s : Int)] w fun e w' => e = .returned (.int .i64 (rfind l c s)) ∧ w' = w := by
  have hbd := Rd.bound h
  have hsz := RdP.size h
  obtain ⟨R, hR⟩ : ∃ R, R = rfind l c s := ⟨_, rfl⟩
  rw [← hR]
  have HR := Go.Lib.hid hR; clear hR
  go_enter Try.func19, Try.ntmps19
  go_wp2
  go_loop [7] (fun i => ∃ k : Nat, k ≤ n ∧ i = .int .i64 k ∧ (l.take k).any (dhit c s) = false) (fun i => n - (intOf i).toNat)
  case atStart => exact ⟨0, by omega, rfl, by simp⟩
  case round =>
    obtain ⟨k, hk, rfl, hno⟩ := hrel
    have HNO := Go.Lib.hid hno; clear hno
    by_cases hlt : k < n
    · obtain ⟨b, o, x, y, z, q0, q1, q2, rfl, hg⟩ := RdP.at h k hlt
      have hki : (k : Int) < (n : Int) := by omega
      have HG := Go.Lib.hid hg; clear hg q2
      by_cases hx : x = c
      · have e1 : ((x : Int) == (c : Int)) = true := by simp [hx]
        by_cases hy : y = s
        · have e2 : ((y : Int) == (s : Int)) = true := by simp [hy]
          have hf := rfind_hit HNO.out HG.out ((NB.dhit_iff _ _ _).2 ⟨hx, hy⟩)
          have HF := Go.Lib.hid hf; clear hf hx hy
          go_wp2
          go_ret
          exact ⟨by rw [HR.out, HF.out.1]; rfl, rfl⟩
        · have e2 : ((y : Int) == (s : Int)) = false := by rw [beq_eq_false_iff_ne]; omega
          have hf : dhit c s (x, y, z) = false := by simp [NB.dhit, hy]
          have HF := Go.Lib.hid hf; clear hf hx hy
          go_wp2
          go_round
          case rel => exact ⟨k + 1, by omega, by go_num, take_any HNO.out HG.out HF.out⟩
          case measure => simp [intOf]; omega
      · have e1 : ((x : Int) == (c : Int)) = false := by rw [beq_eq_false_iff_ne]; omega
        have hf : dhit c s (x, y, z) = false := by simp [NB.dhit, hx]
        have HF := Go.Lib.hid hf; clear hf hx
        go_wp2
        go_round
        case rel => exact ⟨k + 1, by omega, by go_num, take_any HNO.out HG.out HF.out⟩
        case measure => simp [intOf]; omega
    · obtain rfl : k = n := by omega
      have hf := rfind_none (l := l) (c := c) (s := s) (by have := HNO.out; rwa [List.take_of_length_le (by omega)] at this)
      have HF := Go.Lib.hid hf; clear hf
      go_wp2
      go_ret
      exact ⟨by rw [HR.out, HF.out.1]; rfl, rfl⟩

theorem dlast_take {l : List Ent} {c k : Nat} {e : Ent} (hk : l[k]? = some e) : dlast (l.take (k + 1)) c = dlstep c (dlast (l.take k) c) e := by
  rw [List.take_add_one, hk]
  exact NB.dlast_snoc _ _ _

set_option maxHeartbeats 1000000 in
theorem rlast_any (w : World) (a : Option Addr) (n cp : Nat) (l : List Ent) (c : Nat) (h : RdP w a n cp l) :
    Calls Try.prog 20 #[.slice a n cp, .int .u64 (c : Int)] w fun e w' => e = .returned (.tuple #[.int .u64 ((dlast l c).1 : Int), .bool (dlast l c).2]) ∧ w' = w := by
  have hbd := Rd.bound h
  have hsz := RdP.size h
  obtain ⟨R, hR⟩ : ∃ R, R = dlast l c := ⟨_, rfl⟩
  rw [← hR]
  have HR := Go.Lib.hid hR; clear hR
  go_enter Try.func20, Try.ntmps20
  go_wp2
  go_loop [6, 7, 8] (fun x hs i => ∃ (k N : Nat) (B : Bool), k ≤ n ∧ i = .int .i64 (k : Int) ∧ x = .int .u64 (N : Int) ∧ hs = .bool B ∧ dlast (l.take k) c = (N, B)) (fun _ _ i => n - (intOf i).toNat)
  case atStart => exact ⟨0, 0, false, by omega, rfl, rfl, rfl, rfl⟩
  case round =>
    obtain ⟨k, N, B, hk, rfl, rfl, rfl, hd⟩ := hrel
    have HD := Go.Lib.hid hd; clear hd
    by_cases hlt : k < n
    · obtain ⟨b, o, x, y, z, q0, q1, q2, rfl, hg⟩ := RdP.at h k hlt
      have hki : (k : Int) < (n : Int) := by omega
      have hs := dlast_take (c := c) hg
      have HS := Go.Lib.hid hs; clear hg q2 hs
      by_cases hx : x = c
      · have e1 : ((x : Int) == (c : Int)) = true := by simp [hx]
        by_cases hy : N < y
        · have e2 : (N : Int) < (y : Int) := by omega
          have hf : dlstep c (N, B) (x, y, z) = (y, true) := by simp [NB.dlstep, hx]; omega
          have HF := Go.Lib.hid hf; clear hf hx hy
          go_wp2
          go_round
          case rel => exact ⟨k + 1, y, true, by omega, by go_num, rfl, rfl, by rw [HS.out, HD.out, HF.out]⟩
          case measure => simp [intOf]; omega
        · have e2 : ¬ (N : Int) < (y : Int) := by omega
          have hf : dlstep c (N, B) (x, y, z) = (N, true) := by simp [NB.dlstep, hx]; omega
          have HF := Go.Lib.hid hf; clear hf hx hy
          go_wp2
          go_round
          case rel => exact ⟨k + 1, N, true, by omega, by go_num, rfl, rfl, by rw [HS.out, HD.out, HF.out]⟩
          case measure => simp [intOf]; omega
      · have e1 : ((x : Int) == (c : Int)) = false := by rw [beq_eq_false_iff_ne]; omega
        have hf : dlstep c (N, B) (x, y, z) = (N, B) := by simp [NB.dlstep, hx]
        have HF := Go.Lib.hid hf; clear hf hx
        go_wp2
        go_round
        case rel => exact ⟨k + 1, N, B, by omega, by go_num, rfl, rfl, by rw [HS.out, HD.out, HF.out]⟩
        case measure => simp [intOf]; omega
    · obtain rfl : k = n := by omega
      have hd := HD.out
      rw [List.take_of_length_le (by omega)] at hd
      have HF := Go.Lib.hid hd; clear hd
      go_wp2
      go_ret2
      exact ⟨by rw [HR.out, HF.out]; rfl, rfl⟩

/-- What the reference's Note tells. -/
def RNote (w : World) (a0 : Option Addr) (r : List Ent × Int) (e : Ending) (w' : World) : Prop :=
  ∃ a c, e = .returned (.tuple #[.slice a r.1.length c, .int .i64 r.2]) ∧ RdP w' a r.1.length c r.1 ∧ Below w.heap.size w w' ∧ (a = a0 ∨ ∀ b o, a = some ⟨b, o, none⟩ → w.heap.size ≤ b)
theorem p_rd (w : World) (c s : Nat) (z : Int) {g : Nat} (hg : g = w.heap.size) : Rd 3 (w.alloc (.cells #[.int .u64 (c : Int), .int .u64 (s : Int), .int .i64 z] 60)) (some ⟨g, 0, none⟩) 1 1 [.int .u64 (c : Int), .int .u64 (s : Int), .int .i64 z] :=
  NB.rd_new w #[.int .u64 (c : Int), .int .u64 (s : Int), .int .i64 z] 60 1 rfl (by unfold maxLen; omega) hg
theorem p_one (c s : Nat) (z : Int) : ∀ u ∈ [Value.int .u64 (c : Int), .int .u64 (s : Int), .int .i64 z], u.oneCell' = true := by
  intro u hu
  simp at hu
  rcases hu with rfl | rfl | rfl <;> rfl

set_option maxHeartbeats 1000000 in
theorem rnote_any (w : World) (a : Option Addr) (n cp : Nat) (l : List Ent) (c s : Nat) (at_ : Int) (h : RdP w a n cp l) (hl : l.length ≤ 1000000) :
    Calls Try.prog 18 #[.slice a n cp, .int .u64 (c : Int), .int .u64 (s : Int), .int .i64 at_] w (RNote w a (dnote l c s at_)) := by
  have hbd := Rd.bound h
  obtain rfl := RdP.size h
  by_cases h0 : at_ < 0
  · have hq : dnote l c s at_ = (l, 1) := by simp [dnote, h0]
    rw [hq]
    go_enter Try.func18, Try.ntmps18
    go_wp2
    go_ret2
    exact ⟨a, cp, rfl, h, Below.refl _ _, .inl rfl⟩
  · have hqq : dnote l c s at_ = if dknown l c s then (l, 31) else (l ++ [(c, s, at_)], 0) := by simp [dnote, h0]
    have hct := fun w h => rfind_any w a l.length cp l c s h
    rcases rfind_spec l c s with ⟨hk, k, e, hf, _, _⟩ | ⟨hk, hf⟩
    · have hq : dnote l c s at_ = (l, 31) := by rw [hqq, hk]; rfl
      rw [hq]
      rw [hf] at hct
      clear hqq hk hf hq
      go_enter Try.func18, Try.ntmps18
      go_wp2_with fail
      refine (hct _ h).mono ?_
      rintro e w' ⟨rfl, e2⟩
      subst w'
      go_wp2_with fail
      go_ret2
      exact ⟨a, cp, rfl, h, Below.refl _ _, .inl rfl⟩
    · have hq : dnote l c s at_ = (l ++ [(c, s, at_)], 0) := by rw [hqq, hk]; rfl
      rw [hq]
      rw [hf] at hct
      clear hqq hk hf hq
      go_enter Try.func18, Try.ntmps18
      go_wp2_with fail
      refine (hct _ h).mono ?_
      rintro e w' ⟨rfl, e2⟩
      subst w'
      clear hct
      go_wp2_with (first
        | (at_builtin; refine NB.wpList_append_at rfl (.tmp 20) (.tmp 21) 53 rfl w.heap.size slTP (.slice none 0 0) 0 [] rfl (World.ownsRow_nil _ _ _ _) a _ cp (psL l) rfl h (ps_one _) (by omega) (by unfold maxLen; omega) (Nat.le_refl _) ?_; intro v1 w1 ho1 hg1 hv1; rw [Nat.zero_add, List.nil_append] at ho1)
        | (at_builtin; refine NB.wpList_append_at rfl (.tmp 23) (.tmp 28) 53 rfl w.heap.size slTP v1 l.length (psL l) rfl (NB.own_keep ho1 (oneB _ _)) _ 1 1 [.int .u64 (c : Int), .int .u64 (s : Int), .int .i64 at_] rfl (p_rd _ _ _ _ rfl) (p_one _ _ _) (by omega) (by unfold maxLen; omega) (by have := hg1.size; simp; omega) ?_; intro v2 w2 ho2 hg2 hv2; obtain ⟨a2, c2, rfl, hr2, hlo2, _⟩ := NB.rd_of_own ho2))
      go_ret2
      have B1 : Below w.heap.size w w1 := (Below.refl _ w).grown hg1 (Nat.le_refl _) (by rintro k hk; cases hk)
      have B2 := (B1.alloc B1.size (.cells #[.int .u64 (c : Int), .int .u64 (s : Int), .int .i64 at_] 60)).grown hg2 (Nat.le_trans B1.size (oneB _ _).size) (fun j e => (ho1.lt j e).1)
      rw [ps_snoc] at hr2
      exact ⟨a2, c2, by simp, by simpa using hr2, B2, .inr fun b o e => (hlo2 b o e).1⟩
end Go.Proofs.Ythemdfcokphjeaa
