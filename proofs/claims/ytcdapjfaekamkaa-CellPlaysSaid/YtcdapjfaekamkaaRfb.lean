/- The reference on disks, walked: blocks with one other; a write. -/
import Derived.Test.YtcdapjfaekamkaaRfa
namespace Go.Proofs.Ytcdapjfaekamkaa
open Go.RowKit
open Go.NB (Rd Dk Kp Stp Off Dis)

/-- Writes that wait, as they lie. -/
def wsL (ws : List (Nat × List UInt8)) : List Value := ws.flatMap fun x => [.int .i64 (x.1 : Int), strL x.2]
theorem ws_len (ws : List (Nat × List UInt8)) : (wsL ws).length = ws.length * 2 := by
  induction ws with
  | nil => rfl
  | cons x ws ih => rw [wsL, List.flatMap_cons, List.length_append]; change 2 + (wsL ws).length = _; rw [ih]; simp only [List.length_cons]; omega
theorem ws_one (ws : List (Nat × List UInt8)) : ∀ u ∈ wsL ws, u.oneCell' = true := by
  intro u hu
  simp only [wsL, List.mem_flatMap] at hu
  obtain ⟨x, _, hx⟩ := hu
  simp only [List.mem_cons, List.not_mem_nil, or_false] at hx
  rcases hx with rfl | rfl <;> rfl
theorem ws_at (ws : List (Nat × List UInt8)) : ∀ (k : Nat) (x : Nat × List UInt8), ws[k]? = some x → (wsL ws)[k * 2]? = some (.int .i64 (x.1 : Int)) ∧ (wsL ws)[k * 2 + 1]? = some (strL x.2) := by
  induction ws with
  | nil => intro k x h; simp at h
  | cons y ws ih =>
    intro k x h
    cases k with
    | zero =>
      obtain rfl : y = x := by simpa using h
      exact ⟨rfl, rfl⟩
    | succ k =>
      have := ih k x (by simpa using h)
      have e : wsL (y :: ws) = .int .i64 (y.1 : Int) :: strL y.2 :: wsL ws := rfl
      rw [e, show (k + 1) * 2 = k * 2 + 1 + 1 by omega, show k * 2 + 1 + 1 + 1 = (k * 2 + 1) + 1 + 1 by omega]
      simpa using this
theorem ws_snoc (ws : List (Nat × List UInt8)) (i : Nat) (b : List UInt8) : wsL ws ++ [.int .i64 (i : Int), strL b] = wsL (ws ++ [(i, b)]) := by simp [wsL]
theorem slTWs : NB.SlT Try.prog 47 93 (.agg #[.int .i64 0, .string ⟨#[]⟩]) 2 24 :=
  ⟨Try.underlying47, info_parts (by kernel_rfl), rfl, by omega⟩

set_option maxHeartbeats 1000000 in
theorem rput_any (w : World) (a : Option Addr) (n c : Nat) (l : List (List UInt8)) (h : Rd 1 w a n c (strsL l)) (k : Nat) (hk : k < l.length) (b : List UInt8) (hl : l.length ≤ 65536) :
    Calls Try.prog 45 #[.slice a n c, .int .i64 (k : Int), strL b] w fun e w' => ∃ a' c', e = .returned (.slice a' n c') ∧ Rd 1 w' a' n c' (strsL (l.set k b)) ∧ Below w.heap.size w w' ∧ (∀ b o, a' = some ⟨b, o, none⟩ → w.heap.size ≤ b) := by
  obtain rfl : n = l.length := by have := h.len; rw [strs_len] at this; omega
  have hki : (k : Int) < (l.length : Int) := by omega
  unfold strL
  go_enter Try.func45, Try.ntmps45
  go_wp2_with (first
    | (at_builtin; refine NB.wpList_append_at rfl (.tmp 8) (.tmp 9) 38 rfl w.heap.size slTS (.slice none 0 0) 0 [] rfl (World.ownsRow_nil _ _ _ _) a _ c (strsL l) rfl h (strs_one l) (by omega) (by unfold maxLen; omega) (Nat.le_refl _) ?_; intro v1 w1 ho1 hg1 hv1; rw [Nat.zero_add, List.nil_append] at ho1; obtain ⟨g, cap, x, rfl, hbg, hcell, hfz, hle, hcm, hset⟩ := own_set ho1 k (by omega) (strL b)))
  go_ret
  rw [strs_set] at hset
  obtain ⟨a', c', e, hr, hlo, _⟩ := NB.rd_of_own hset
  cases e
  refine ⟨_, _, rfl, hr, ?_, fun b o e => (hlo b o e).1⟩
  exact ((Below.refl _ w).grown hg1 (Nat.le_refl _) (by rintro k hk; cases hk)).setCell hbg _

/-- The four cells of a box, at hand. -/
theorem rw4 {w : World} {g : Nat} {a b c d : Value} {t : TypeId} (h : Rw w g [a, b, c, d] t) :
    w.cell? ⟨g, 0, none⟩ = some a ∧ w.cell? ⟨g, 1, none⟩ = some b ∧ w.cell? ⟨g, 2, none⟩ = some c ∧ w.cell? ⟨g, 3, none⟩ = some d ∧
    w.frozen? ⟨g, 0, none⟩ = false ∧ w.frozen? ⟨g, 1, none⟩ = false ∧ w.frozen? ⟨g, 2, none⟩ = false ∧ w.frozen? ⟨g, 3, none⟩ = false :=
  ⟨h.cell 0 _ rfl, h.cell 1 _ rfl, h.cell 2 _ rfl, h.cell 3 _ rfl, h.free 0, h.free 1, h.free 2, h.free 3⟩
theorem two_rw (w : World) (a b c d a' b' c' d' : Value) (t t' : TypeId) :
    Rw ((w.alloc (.cells #[a, b, c, d] t)).alloc (.cells #[a', b', c', d'] t')) w.heap.size [a, b, c, d] t ∧ Rw ((w.alloc (.cells #[a, b, c, d] t)).alloc (.cells #[a', b', c', d'] t')) (w.heap.size + 1) [a', b', c', d'] t' := by
  have h1 : Rw (w.alloc (.cells #[a, b, c, d] t)) w.heap.size [a, b, c, d] t := rw_new w [a, b, c, d] t rfl
  refine ⟨h1.below (oneB _ _), ?_⟩
  exact rw_new (w.alloc (.cells #[a, b, c, d] t)) [a', b', c', d'] t' (by simp)

theorem w_rd (w : World) (i : Int) (bs : List UInt8) : Rd 2 (w.alloc (.cells #[.int .i64 i, .string ⟨bs.toArray⟩] 93)) (some ⟨w.heap.size, 0, none⟩) 1 1 [.int .i64 i, .string ⟨bs.toArray⟩] :=
  NB.rd_new w #[.int .i64 i, .string ⟨bs.toArray⟩] 93 1 rfl (by unfold maxLen; omega) rfl
theorem w_one (i : Int) (bs : List UInt8) : ∀ u ∈ [Value.int .i64 i, .string ⟨bs.toArray⟩], u.oneCell' = true := by
  intro u hu
  simp only [List.mem_cons, List.not_mem_nil, or_false] at hu
  rcases hu with rfl | rfl <;> rfl
def WroteR (w : World) (a1 : Option Addr) (n1 c1 : Nat) (a2 : Option Addr) (n2 : Nat) (r : Dk × Int) (e : Ending) (w' : World) : Prop :=
  ∃ a' c', e = .returned (.tuple #[rdV a1 n1 c1 a' r.1.waits.length c' r.1.left r.1.down, .int .i64 r.2]) ∧ Rd 2 w' a' r.1.waits.length c' (wsL r.1.waits) ∧ Below w.heap.size w w' ∧ ((a' = a2 ∧ r.1.waits.length = n2) ∨ ∀ b o, a' = some ⟨b, o, none⟩ → w.heap.size ≤ b)
set_option maxRecDepth 100000 in
set_option maxHeartbeats 2000000 in
theorem rwrite_any (w : World) (a1 : Option Addr) (n1 c1 : Nat) (a2 : Option Addr) (n2 c2 : Nat) (D : Dk) (i : Int) (bs : List UInt8) (h1 : n1 = D.l.length) (h2 : Rd 2 w a2 n2 c2 (wsL D.waits)) (hl : -1 ≤ D.left) (hl2 : D.left ≤ 9223372036854775807) (hw : D.waits.length ≤ 100000) (hbl : bs.length ≤ 1000000) :
    Calls Try.prog 24 #[rdV a1 n1 c1 a2 n2 c2 D.left D.down, .int .i64 i, strL bs] w (WroteR w a1 n1 c1 a2 n2 (D.write i bs)) := by
  have hn2 : n2 = D.waits.length := by have := h2.len; rw [ws_len] at this; omega
  subst hn2
  subst h1
  have har := fun w => rat_any w a1 D.l.length c1 a2 D.waits.length c2 D i rfl
  have hco := fun w => rcounts_any w a1 D.l.length c1 a2 D.waits.length c2 D hl hl2
  have hq0 : D.write i bs = if D.at_ i ≠ 0 then (D, D.at_ i) else if bs.length ≠ 64 then (D, 1) else if D.left = 0 then ({ D with down := true }, 20) else ({ D with left := max (D.left - 1) (-1), waits := D.waits ++ [(i.toNat, bs)] }, 0) := rfl
  have hi0 : D.at_ i = 0 → ((i.toNat : Nat) : Int) = i := fun ha => by
    unfold Dk.at_ at ha
    split at ha
    · omega
    · split at ha
      · omega
      · omega
  rw [hq0]
  clear hq0
  obtain ⟨l, waits, left, down⟩ := D
  have T := two_rw w (.slice a1 l.length c1) (.slice a2 waits.length c2) (.int .i64 left) (.bool down) (.slice none 0 0) (.slice none 0 0) (.int .i64 0) (.bool false) 49 49
  simp only at *
  generalize hA : (⟨l, waits, left, down⟩ : Dk).at_ i = A at *
  have HAR := Go.Lib.hid har
  clear har hA
  by_cases ha : A = 0
  case neg =>
    rw [if_pos ha]
    have hab : (A == 0) = false := by simpa using ha
    clear ha hco
    unfold strL rdV at *
    go_enter Try.func24, Try.ntmps24
    go_wp2_with fail
    refine (HAR.out _).mono ?_
    rintro e w3 ⟨rfl, hb3⟩
    obtain ⟨x0, x1, x2, x3, _, _, _, _⟩ := rw4 (T.1.below hb3)
    obtain ⟨y0, y1, y2, y3, v0, v1, v2, v3⟩ := rw4 (T.2.below hb3)
    have B3 := bel (twoB w _ _) hb3 (twoB w _ _).size
    have hz := (T.2.below hb3).lt
    clear T
    go_wp2_with fail
    refine bodyPost_ret (v := .tuple #[rdV a1 l.length c1 a2 waits.length c2 left down, .int .i64 A]) (by simp [results, Try.results24, go_sem, y0, y1, y2, y3, hz, rdV]) rfl ⟨a2, c2, rfl, Rd.below h2 ?_, ?_, .inl ⟨rfl, rfl⟩⟩
    all_goals (iterate 4 refine Below.setCell ?_ (by simp) _)
    all_goals exact B3
  subst ha
  rw [if_neg (by simp)]
  replace hi0 := hi0 rfl
  by_cases hlen : bs.length = 64
  case neg =>
    rw [if_pos hlen]
    have hlb : ¬ (bs.length : Int) = 64 := by omega
    clear hco
    unfold strL rdV at *
    go_enter Try.func24, Try.ntmps24
    go_wp2_with fail
    refine (HAR.out _).mono ?_
    rintro e w3 ⟨rfl, hb3⟩
    obtain ⟨x0, x1, x2, x3, _, _, _, _⟩ := rw4 (T.1.below hb3)
    obtain ⟨y0, y1, y2, y3, v0, v1, v2, v3⟩ := rw4 (T.2.below hb3)
    have B3 := bel (twoB w _ _) hb3 (twoB w _ _).size
    have hz := (T.2.below hb3).lt
    clear T
    go_wp2_with fail
    refine bodyPost_ret (v := .tuple #[rdV a1 l.length c1 a2 waits.length c2 left down, .int .i64 1]) (by simp [results, Try.results24, go_sem, y0, y1, y2, y3, hz, rdV]) rfl ⟨a2, c2, rfl, Rd.below h2 ?_, ?_, .inl ⟨rfl, rfl⟩⟩
    all_goals (iterate 4 refine Below.setCell ?_ (by simp) _)
    all_goals exact B3
  rw [if_neg (by simpa using hlen)]
  by_cases h0 : left = 0
  · subst h0
    rw [if_pos rfl]
    have hc : (⟨l, waits, 0, down⟩ : Dk).counts = (⟨l, waits, 0, true⟩, 20) := rfl
    rw [hc] at hco
    simp only at hco
    have HCO := Go.Lib.hid hco
    clear hco hc
    unfold strL rdV at *
    go_enter Try.func24, Try.ntmps24
    go_wp2_with fail
    refine (HAR.out _).mono ?_
    rintro e w3 ⟨rfl, hb3⟩
    have R1 := T.1.below hb3
    have R2 := T.2.below hb3
    obtain ⟨x0, x1, x2, x3, _, _, _, _⟩ := rw4 R1
    have B3 := bel (twoB w _ _) hb3 (twoB w _ _).size
    clear T hb3
    go_wp2_with fail
    refine (HCO.out _).mono ?_
    rintro e w4 ⟨rfl, hb4⟩
    have B4 := bel B3 hb4 B3.size
    have R14 := R1.below hb4
    have R24 := R2.below hb4
    clear x0 x1 x2 x3
    obtain ⟨x0, x1, x2, x3, u0, u1, u2, u3⟩ := rw4 R14
    obtain ⟨y0, y1, y2, y3, v0, v1, v2, v3⟩ := rw4 R24
    have hz := R24.lt
    clear R1 R2 hb4
    go_wp2_with fail
    refine bodyPost_ret (v := .tuple #[rdV a1 l.length c1 a2 waits.length c2 0 true, .int .i64 20]) (by simp [results, Try.results24, go_sem, y0, y1, y2, y3, hz, rdV]) rfl ⟨a2, c2, rfl, Rd.below h2 ?_, ?_, .inl ⟨rfl, rfl⟩⟩
    all_goals (iterate 8 refine Below.setCell ?_ (by simp) _)
    all_goals exact B4
  rw [if_neg h0]
  have hc : (⟨l, waits, left, down⟩ : Dk).counts = (⟨l, waits, max (left - 1) (-1), down⟩, 0) := by simp only [Dk.counts, h0, if_false]
  rw [hc] at hco
  generalize max (left - 1) (-1) = L at *
  simp only at hco
  have HCO := Go.Lib.hid hco
  clear hco hc h0
  have HIJ := Go.Lib.hid hi0
  clear hi0
  unfold strL rdV at *
  go_enter Try.func24, Try.ntmps24
  go_wp2_with fail
  refine (HAR.out _).mono ?_
  rintro e w3 ⟨rfl, hb3⟩
  have R1 := T.1.below hb3
  have R2 := T.2.below hb3
  obtain ⟨x0, x1, x2, x3, _, _, _, _⟩ := rw4 R1
  have B3 := bel (twoB w _ _) hb3 (twoB w _ _).size
  clear T hb3
  go_wp2_with fail
  refine (HCO.out _).mono ?_
  rintro e w4 ⟨rfl, hb4⟩
  have B4 := bel B3 hb4 B3.size
  have R14 := R1.below hb4
  have R24 := R2.below hb4
  clear x0 x1 x2 x3 R1 R2 hb4
  obtain ⟨x0, x1, x2, x3, u0, u1, u2, u3⟩ := rw4 R14
  have R15 : Rw ((((w4.setCell ⟨w.heap.size, 0, none⟩ (.slice a1 l.length c1)).setCell ⟨w.heap.size, 1, none⟩ (.slice a2 waits.length c2)).setCell ⟨w.heap.size, 2, none⟩ (.int .i64 L)).setCell ⟨w.heap.size, 3, none⟩ (.bool down)) w.heap.size [.slice a1 l.length c1, .slice a2 waits.length c2, .int .i64 L, .bool down] 49 := (((R14.set 0 _).set 1 _).set 2 _).set 3 _
  have R25 := (((R24.other (g' := w.heap.size) (by omega) 0 (.slice a1 l.length c1)).other (g' := w.heap.size) (by omega) 1 (.slice a2 waits.length c2)).other (g' := w.heap.size) (by omega) 2 (.int .i64 L)).other (g' := w.heap.size) (by omega) 3 (.bool down)
  have B5 : Below w.heap.size w ((((w4.setCell ⟨w.heap.size, 0, none⟩ (.slice a1 l.length c1)).setCell ⟨w.heap.size, 1, none⟩ (.slice a2 waits.length c2)).setCell ⟨w.heap.size, 2, none⟩ (.int .i64 L)).setCell ⟨w.heap.size, 3, none⟩ (.bool down)) := (((B4.setCell (p := ⟨w.heap.size, 0, none⟩) (Nat.le_refl _) _).setCell (p := ⟨w.heap.size, 1, none⟩) (Nat.le_refl _) _).setCell (p := ⟨w.heap.size, 2, none⟩) (Nat.le_refl _) _).setCell (p := ⟨w.heap.size, 3, none⟩) (Nat.le_refl _) _
  obtain ⟨w5, hw5⟩ : ∃ w5, ((((w4.setCell ⟨w.heap.size, 0, none⟩ (.slice a1 l.length c1)).setCell ⟨w.heap.size, 1, none⟩ (.slice a2 waits.length c2)).setCell ⟨w.heap.size, 2, none⟩ (.int .i64 L)).setCell ⟨w.heap.size, 3, none⟩ (.bool down)) = w5 := ⟨_, rfl⟩
  rw [hw5] at R15 R25 B5
  have h25 := Rd.below h2 B5
  have HW5 := Go.Lib.hid hw5
  clear hw5
  go_wp2_with (first
    | (at_builtin; rw [HW5.out]; refine NB.wpList_append_at rfl (.tmp 30) (.tmp 32) 47 rfl w5.heap.size slTWs (.slice none 0 0) 0 [] rfl (World.ownsRow_nil _ _ _ _) a2 _ c2 (wsL waits) rfl h25 (ws_one _) (by omega) (by unfold maxLen; omega) (Nat.le_refl _) ?_; intro v6 w6 ho6 hg6 hv6; have hb6 : Below w5.heap.size w5 w6 := (Below.refl _ w5).grown hg6 (Nat.le_refl _) (by rintro k hk; cases hk); have R16 := R15.below hb6; have R26 := R25.below hb6; have B6 := bel B5 hb6 B5.size; rw [Nat.zero_add, List.nil_append] at ho6; obtain ⟨s0, s1, s2, s3, g0, g1, g2, g3⟩ := rw4 R16)
    | (at_builtin; have X1 := w_rd w6 i bs; have X2 := w_one i bs; have hb7 := oneB w6 (.cells #[.int .i64 i, .string ⟨bs.toArray⟩] 93); have X3 := (Kp.of_below (F := fun _ => False) hb7).own ho6 (fun _ _ h => h); have X4 := Nat.le_trans hb6.size hb7.size; have X5 : (waits.length + 1) * 24 ≤ 140737488355328 := (by omega); have X6 : waits.length + 1 ≤ maxLen := (by unfold maxLen; omega); refine NB.wpList_append_at rfl (.tmp 34) (.tmp 38) 47 rfl w5.heap.size slTWs v6 waits.length (wsL waits) rfl X3 (some ⟨w6.heap.size, 0, none⟩) 1 1 [.int .i64 i, .string ⟨bs.toArray⟩] rfl X1 X2 X5 X6 X4 ?_; intro v8 w8 ho8 hg8 hv8; have K8 : Kp (fun _ => False) w5 w8 := ((Kp.of_below (F := fun _ => False) hb6).trans (Kp.of_below (F := fun _ => False) hb7) (fun _ h => h.elim)).grown hg8 (fun k hk => .inr (ho6.lt k hk).1); have R18 := R15.keep K8 (fun h => h); have R28 := R25.keep K8 (fun h => h); have B8 := bel B5 (K8.below (fun _ h => h.elim)) B5.size; obtain ⟨a8, c8, rfl, hr8, hlo8, _⟩ := NB.rd_of_own ho8; clear s0 s1 s2 s3 g0 g1 g2 g3 X1 X2 X3 X4 X5 X6 hb7; obtain ⟨x0, x1, x2, x3, u0, u1, u2, u3⟩ := rw4 R18; obtain ⟨y0, y1, y2, y3, v0, v1, v2, v3⟩ := rw4 R28))
  have hz := R28.lt
  have hsz5 : w.heap.size + 1 < w5.heap.size := R25.lt
  have KF : Kp (fun k => k = w.heap.size ∨ k = w.heap.size + 1) w8 (((((w8.setCell ⟨w.heap.size, 1, none⟩ (.slice a8 (waits.length + 1) c8)).setCell ⟨w.heap.size + 1, 0, none⟩ (.slice a1 l.length c1)).setCell ⟨w.heap.size + 1, 1, none⟩ (.slice a8 (waits.length + 1) c8)).setCell ⟨w.heap.size + 1, 2, none⟩ (.int .i64 L)).setCell ⟨w.heap.size + 1, 3, none⟩ (.bool down)) :=
    (((((Kp.refl _ w8).setCell (x := ⟨w.heap.size, 1, none⟩) (.inl (.inl rfl)) _).setCell (x := ⟨w.heap.size + 1, 0, none⟩) (.inl (.inr rfl)) _).setCell (x := ⟨w.heap.size + 1, 1, none⟩) (.inl (.inr rfl)) _).setCell (x := ⟨w.heap.size + 1, 2, none⟩) (.inl (.inr rfl)) _).setCell (x := ⟨w.heap.size + 1, 3, none⟩) (.inl (.inr rfl)) _
  have hrf := KF.rd hr8 (fun b o e _ h => by
    have := (hlo8 b o e).1
    rcases h with h | h <;> omega)
  have e1 : wsL waits ++ [.int .i64 i, .string ⟨bs.toArray⟩] = wsL (waits ++ [(i.toNat, bs)]) := by rw [← ws_snoc, HIJ.out]; rfl
  have e2 : (waits ++ [(i.toNat, bs)]).length = waits.length + 1 := by simp
  rw [e1] at hrf
  refine bodyPost_ret (v := .tuple #[rdV a1 l.length c1 a8 (waits.length + 1) c8 L down, .int .i64 0]) (by simp [results, Try.results24, go_sem, y0, y1, y2, y3, hz, rdV]) rfl ⟨a8, c8, ?_, ?_, ?_, .inr fun b o e => Nat.le_trans B5.size (hlo8 b o e).1⟩
  · simp only [e2]
  · simp only [e2]; exact hrf
  · iterate 5 refine Below.setCell ?_ (by simp) _
    exact B8
end Go.Proofs.Ytcdapjfaekamkaa
