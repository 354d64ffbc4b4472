/- The reference on disks, walked: a block of noughts, the error of a call, a call that counts, what is told to stop. The reference on disks, walked: blocks with one other; a write. The reference on disks, walked: a read. The reference on disks, walked: a sync. The reference on disks, walked: a crash. The reference on disks, walked: a new one. Is a disk the reference's? Walked: of the same disk it says yes. -/
import Derived.Test.YtmgkaoenjnnlmaaStr
import Derived.Test.YtmgkaoenjnnlmaaAny
namespace Go.Proofs.Ytmgkaoenjnnlmaa
open Go.RowKit
open Go.NB (Rd Dk Kp Stp Off Dis)

theorem twoB (w : World) (o o' : Obj) : Below w.heap.size w ((w.alloc o).alloc o') := ((Below.refl _ _).alloc (Nat.le_refl _) _).alloc (by simp) _
theorem oneB (w : World) (o : Obj) : Below w.heap.size w (w.alloc o) := (Below.refl _ _).alloc (Nat.le_refl _) _

/-- A disk of the reference, out of its parts. -/
def rdV (a1 : Option Addr) (n1 c1 : Nat) (a2 : Option Addr) (n2 c2 : Nat) (left : Int) (down : Bool) : Value := .agg #[.slice a1 n1 c1, .slice a2 n2 c2, .int .i64 left, .bool down]

set_option maxRecDepth 100000 in
theorem rnoughts_any (w : World) : Calls Try.prog 43 #[] w fun e w' => e = .returned (strL (List.replicate 64 0)) ∧ Below w.heap.size w w' := by
  obtain ⟨i, hi, hz, hsz, hby⟩ := slTB.hi
  go_enter Try.func43, Try.ntmps43
  go_wp2_with (first
    | (refine wpList_make_full w rfl (.const (.int .i64 64)) (.const (.int .i64 64)) 23 rfl w.heap.size 5 i (.int .u8 0) 1 slTB.ht hi hz hsz .i64 .i64 64 64 64 rfl rfl rfl rfl (by rw [hby]; omega) (by unfold maxLen; omega) (Nat.le_refl _) ?_; intro w2 ho2 hg2; have hr2 : NB.RdB w2 (some ⟨w.heap.size, 0, none⟩) 64 64 (List.replicate 64 0) := NB.rdB_row (t := 5) (fr := (0, 0)) (by have h := row_full ho2; rw [show (Value.int IntKind.u8 0).cells = #[.int .u8 0] from rfl, Nat.mul_one, show (madeCells #[.int .u8 0] 64).toList = ((List.replicate 64 (0 : UInt8)).map NB.u8v) from by kernel_rfl] at h; exact h) (by simp) (by unfold maxLen; omega))
    | (refine NB.wpList_conv_str rfl 23 9 (.tmp 1) rfl Try.underlying23 Try.underlying5 Try.underlying9 _ 64 64 (List.replicate 64 0) rfl hr2 ?_))
  go_ret
  exact ⟨rfl, (Below.refl _ w).grown hg2 (Nat.le_refl _) (by rintro k hk; cases hk)⟩

set_option maxHeartbeats 1000000 in
theorem rat_any (w : World) (a1 : Option Addr) (n1 c1 : Nat) (a2 : Option Addr) (n2 c2 : Nat) (D : Dk) (i : Int) (h1 : n1 = D.l.length) :
    Calls Try.prog 54 #[rdV a1 n1 c1 a2 n2 c2 D.left D.down, .int .i64 i] w fun e w' => e = .returned (.int .i64 (D.at_ i)) ∧ Below w.heap.size w w' := by
  subst h1
  unfold rdV
  obtain ⟨l, waits, left, down⟩ := D
  cases down with
  | true =>
    go_enter Try.func54, Try.ntmps54
    go_wp2
    go_ret
    exact ⟨rfl, oneB _ _⟩
  | false =>
    by_cases h0 : i < 0
    · go_enter Try.func54, Try.ntmps54
      go_wp2
      go_ret
      exact ⟨by simp [Dk.at_, h0], oneB _ _⟩
    · by_cases hl : (l.length : Int) ≤ i
      · go_enter Try.func54, Try.ntmps54
        go_wp2
        go_ret
        exact ⟨by simp [Dk.at_, hl], oneB _ _⟩
      · have hq : (⟨l, waits, left, false⟩ : Dk).at_ i = 0 := by simp only [Dk.at_, if_false, Bool.false_eq_true]; rw [if_neg (by omega)]
        rw [hq]
        clear hq
        go_enter Try.func54, Try.ntmps54
        go_wp2
        go_ret
        exact ⟨rfl, oneB _ _⟩

set_option maxHeartbeats 1000000 in
theorem rcounts_any (w : World) (a1 : Option Addr) (n1 c1 : Nat) (a2 : Option Addr) (n2 c2 : Nat) (D : Dk) (h1 : -1 ≤ D.left) (h2 : D.left ≤ 9223372036854775807) :
    Calls Try.prog 55 #[rdV a1 n1 c1 a2 n2 c2 D.left D.down] w fun e w' => e = .returned (.tuple #[rdV a1 n1 c1 a2 n2 c2 D.counts.1.left D.counts.1.down, .int .i64 D.counts.2]) ∧ Below w.heap.size w w' := by
  unfold rdV
  obtain ⟨l, waits, left, down⟩ := D
  simp only at h1 h2 ⊢
  by_cases h0 : left = 0
  · subst h0
    go_enter Try.func55, Try.ntmps55
    go_wp2
    exact bodyPost_ret (v := .tuple #[rdV a1 n1 c1 a2 n2 c2 0 true, .int .i64 20]) (by simp [results, Try.results55, go_sem, rdV]) rfl ⟨rfl, twoB _ _ _⟩
  · have h0b : (left == 0) = false := by simpa using h0
    by_cases hp : 0 < left
    · have hq : (⟨l, waits, left, down⟩ : Dk).counts = (⟨l, waits, left - 1, down⟩, 0) := by simp only [Dk.counts, h0, if_false, Prod.mk.injEq, Dk.mk.injEq, true_and, and_true]; omega
      rw [hq]
      go_enter Try.func55, Try.ntmps55
      go_wp2
      exact bodyPost_ret (v := .tuple #[rdV a1 n1 c1 a2 n2 c2 (left - 1) down, .int .i64 0]) (by simp [results, Try.results55, go_sem, rdV]) rfl ⟨rfl, twoB _ _ _⟩
    · obtain rfl : left = -1 := by omega
      have hq : (⟨l, waits, -1, down⟩ : Dk).counts = (⟨l, waits, -1, down⟩, 0) := rfl
      rw [hq]
      go_enter Try.func55, Try.ntmps55
      go_wp2
      exact bodyPost_ret (v := .tuple #[rdV a1 n1 c1 a2 n2 c2 (-1) down, .int .i64 0]) (by simp [results, Try.results55, go_sem, rdV]) rfl ⟨rfl, twoB _ _ _⟩

set_option maxHeartbeats 1000000 in
theorem rstop_any (w : World) (a1 : Option Addr) (n1 c1 : Nat) (a2 : Option Addr) (n2 c2 : Nat) (left : Int) (down : Bool) (x : Int) :
    Calls Try.prog 28 #[rdV a1 n1 c1 a2 n2 c2 left down, .int .i64 x] w fun e w' => e = .returned (rdV a1 n1 c1 a2 n2 c2 (max x (-1)) down) ∧ Below w.heap.size w w' := by
  unfold rdV
  by_cases h0 : x < 0
  · have hq : max x (-1) = -1 := by omega
    rw [hq]
    go_enter Try.func28, Try.ntmps28
    go_wp2
    exact bodyPost_ret (v := rdV a1 n1 c1 a2 n2 c2 (-1) down) (by simp [results, Try.results28, go_sem, rdV]) rfl ⟨rfl, twoB _ _ _⟩
  · have hq : max x (-1) = x := by omega
    rw [hq]
    go_enter Try.func28, Try.ntmps28
    go_wp2
    exact bodyPost_ret (v := rdV a1 n1 c1 a2 n2 c2 x down) (by simp [results, Try.results28, go_sem, rdV]) rfl ⟨rfl, twoB _ _ _⟩
end Go.Proofs.Ytmgkaoenjnnlmaa
namespace Go.Proofs.Ytmgkaoenjnnlmaa
open Go.RowKit
open Go.NB (Rd Dk Kp Stp Off Dis)

/-- Writes that wait, as they lie. -/
def wsL (ws : List (Nat × List UInt8)) : List Value := ws.flatMap fun x => [.int .i64 (x.1 : Int), strL x.2]
theorem wsl_len (ws : List (Nat × List UInt8)) : (wsL ws).length = ws.length * 2 := by
  induction ws with
  | nil => rfl
  | cons x ws ih => rw [wsL, List.flatMap_cons, List.length_append]; change 2 + (wsL ws).length = _; rw [ih]; simp only [List.length_cons]; omega
theorem ws_one (ws : List (Nat × List UInt8)) : ∀ u ∈ wsL ws, u.oneCell' = true := by
  intro u hu
  simp only [wsL, List.mem_flatMap] at hu
  obtain ⟨x, _, hx⟩ := hu
  simp only [List.mem_cons, List.not_mem_nil, or_false] at hx
  rcases hx with rfl | rfl <;> rfl
theorem ws_at (ws : List (Nat × List UInt8)) : ∀ (k : Nat) (x : Nat × List UInt8), ws[k]? = some x → (wsL ws)[k * 2]? = some (.int .i64 (x.1 : Int)) ∧ (wsL ws)[k * 2 + 1]? = some (strL x.2) := by
  induction ws with
  | nil => intro k x h; simp at h
  | cons y ws ih =>
    intro k x h
    cases k with
    | zero =>
      obtain rfl : y = x := by simpa using h
      exact ⟨rfl, rfl⟩
    | succ k =>
      have := ih k x (by simpa using h)
      have e : wsL (y :: ws) = .int .i64 (y.1 : Int) :: strL y.2 :: wsL ws := rfl
      rw [e, show (k + 1) * 2 = k * 2 + 1 + 1 by omega, show k * 2 + 1 + 1 + 1 = (k * 2 + 1) + 1 + 1 by omega]
      simpa using this
theorem ws_snoc (ws : List (Nat × List UInt8)) (i : Nat) (b : List UInt8) : wsL ws ++ [.int .i64 (i : Int), strL b] = wsL (ws ++ [(i, b)]) := by simp [wsL]
theorem slTWs : NB.SlT Try.prog 48 112 (.agg #[.int .i64 0, .string ⟨#[]⟩]) 2 24 :=
  ⟨Try.underlying48, info_parts (by kernel_rfl), rfl, by omega⟩

set_option maxHeartbeats 1000000 in
theorem rput_any (w : World) (a : Option Addr) (n c : Nat) (l : List (List UInt8)) (h : Rd 1 w a n c (strsL l)) (k : Nat) (hk : k < l.length) (b : List UInt8) (hl : l.length ≤ 65536) :
    Calls Try.prog 56 #[.slice a n c, .int .i64 (k : Int), strL b] w fun e w' => ∃ a' c', e = .returned (.slice a' n c') ∧ Rd 1 w' a' n c' (strsL (l.set k b)) ∧ Below w.heap.size w w' ∧ (∀ b o, a' = some ⟨b, o, none⟩ → w.heap.size ≤ b) := by
  obtain rfl : n = l.length := by have := h.len; rw [strs_len] at this; omega
  have hki : (k : Int) < (l.length : Int) := by omega
  unfold strL
  go_enter Try.func56, Try.ntmps56
  go_wp2_with (first
    | (at_builtin; refine NB.wpList_append_at rfl (.tmp 8) (.tmp 9) 32 rfl w.heap.size slTS (.slice none 0 0) 0 [] rfl (World.ownsRow_nil _ _ _ _) a _ c (strsL l) rfl h (strs_one l) (by omega) (by unfold maxLen; omega) (Nat.le_refl _) ?_; intro v1 w1 ho1 hg1 hv1; rw [Nat.zero_add, List.nil_append] at ho1; obtain ⟨g, cap, x, rfl, hbg, hcell, hfz, hle, hcm, hset⟩ := own_set ho1 k (by omega) (strL b)))
  go_ret
  rw [strs_set] at hset
  obtain ⟨a', c', e, hr, hlo, _⟩ := NB.rd_of_own hset
  cases e
  refine ⟨_, _, rfl, hr, ?_, fun b o e => (hlo b o e).1⟩
  exact ((Below.refl _ w).grown hg1 (Nat.le_refl _) (by rintro k hk; cases hk)).setCell hbg _

/-- The four cells of a box, at hand. -/
theorem rw4 {w : World} {g : Nat} {a b c d : Value} {t : TypeId} (h : Rw w g [a, b, c, d] t) :
    w.cell? ⟨g, 0, none⟩ = some a ∧ w.cell? ⟨g, 1, none⟩ = some b ∧ w.cell? ⟨g, 2, none⟩ = some c ∧ w.cell? ⟨g, 3, none⟩ = some d ∧
    w.frozen? ⟨g, 0, none⟩ = false ∧ w.frozen? ⟨g, 1, none⟩ = false ∧ w.frozen? ⟨g, 2, none⟩ = false ∧ w.frozen? ⟨g, 3, none⟩ = false :=
  ⟨h.cell 0 _ rfl, h.cell 1 _ rfl, h.cell 2 _ rfl, h.cell 3 _ rfl, h.free 0, h.free 1, h.free 2, h.free 3⟩
theorem two_rw (w : World) (a b c d a' b' c' d' : Value) (t t' : TypeId) :
    Rw ((w.alloc (.cells #[a, b, c, d] t)).alloc (.cells #[a', b', c', d'] t')) w.heap.size [a, b, c, d] t ∧ Rw ((w.alloc (.cells #[a, b, c, d] t)).alloc (.cells #[a', b', c', d'] t')) (w.heap.size + 1) [a', b', c', d'] t' := by
  have h1 : Rw (w.alloc (.cells #[a, b, c, d] t)) w.heap.size [a, b, c, d] t := rw_new w [a, b, c, d] t rfl
  refine ⟨h1.below (oneB _ _), ?_⟩
  exact rw_new (w.alloc (.cells #[a, b, c, d] t)) [a', b', c', d'] t' (by simp)

theorem w_rd (w : World) (i : Int) (bs : List UInt8) : Rd 2 (w.alloc (.cells #[.int .i64 i, .string ⟨bs.toArray⟩] 112)) (some ⟨w.heap.size, 0, none⟩) 1 1 [.int .i64 i, .string ⟨bs.toArray⟩] :=
  NB.rd_new w #[.int .i64 i, .string ⟨bs.toArray⟩] 112 1 rfl (by unfold maxLen; omega) rfl
theorem w_one (i : Int) (bs : List UInt8) : ∀ u ∈ [Value.int .i64 i, .string ⟨bs.toArray⟩], u.oneCell' = true := by
  intro u hu
  simp only [List.mem_cons, List.not_mem_nil, or_false] at hu
  rcases hu with rfl | rfl <;> rfl
def WroteR (w : World) (a1 : Option Addr) (n1 c1 : Nat) (a2 : Option Addr) (n2 : Nat) (r : Dk × Int) (e : Ending) (w' : World) : Prop :=
  ∃ a' c', e = .returned (.tuple #[rdV a1 n1 c1 a' r.1.waits.length c' r.1.left r.1.down, .int .i64 r.2]) ∧ Rd 2 w' a' r.1.waits.length c' (wsL r.1.waits) ∧ Below w.heap.size w w' ∧ ((a' = a2 ∧ r.1.waits.length = n2) ∨ ∀ b o, a' = some ⟨b, o, none⟩ → w.heap.size ≤ b)
set_option maxRecDepth 100000 in
set_option maxHeartbeats 2000000 in
theorem rwrite_any (w : World) (a1 : Option Addr) (n1 c1 : Nat) (a2 : Option Addr) (n2 c2 : Nat) (D : Dk) (i : Int) (bs : List UInt8) (h1 : n1 = D.l.length) (h2 : Rd 2 w a2 n2 c2 (wsL D.waits)) (hl : -1 ≤ D.left) (hl2 : D.left ≤ 9223372036854775807) (hw : D.waits.length ≤ 100000) (hbl : bs.length ≤ 1000000) :
    Calls Try.prog 31 #[rdV a1 n1 c1 a2 n2 c2 D.left D.down, .int .i64 i, strL bs] w (WroteR w a1 n1 c1 a2 n2 (D.write i bs)) := by
  have hn2 : n2 = D.waits.length := by have := h2.len; rw [wsl_len] at this; omega
  subst hn2
  subst h1
  have har := fun w => rat_any w a1 D.l.length c1 a2 D.waits.length c2 D i rfl
  have hco := fun w => rcounts_any w a1 D.l.length c1 a2 D.waits.length c2 D hl hl2
  have hq0 : D.write i bs = if D.at_ i ≠ 0 then (D, D.at_ i) else if bs.length ≠ 64 then (D, 1) else if D.left = 0 then ({ D with down := true }, 20) else ({ D with left := max (D.left - 1) (-1), waits := D.waits ++ [(i.toNat, bs)] }, 0) := rfl
  have hi0 : D.at_ i = 0 → ((i.toNat : Nat) : Int) = i := fun ha => by
    unfold Dk.at_ at ha
    split at ha
    · omega
    · split at ha
      · omega
      · omega
  rw [hq0]
  clear hq0
  obtain ⟨l, waits, left, down⟩ := D
  have T := two_rw w (.slice a1 l.length c1) (.slice a2 waits.length c2) (.int .i64 left) (.bool down) (.slice none 0 0) (.slice none 0 0) (.int .i64 0) (.bool false) 50 50
  simp only at *
  generalize hA : (⟨l, waits, left, down⟩ : Dk).at_ i = A at *
  have HAR := Go.Lib.hid har
  clear har hA
  by_cases ha : A = 0
  case neg =>
    rw [if_pos ha]
    have hab : (A == 0) = false := by simpa using ha
    clear ha hco
    unfold strL rdV at *
    go_enter Try.func31, Try.ntmps31
    go_wp2_with fail
    refine (HAR.out _).mono ?_
    rintro e w3 ⟨rfl, hb3⟩
    obtain ⟨x0, x1, x2, x3, _, _, _, _⟩ := rw4 (T.1.below hb3)
    obtain ⟨y0, y1, y2, y3, v0, v1, v2, v3⟩ := rw4 (T.2.below hb3)
    have B3 := bel (twoB w _ _) hb3 (twoB w _ _).size
    have hz := (T.2.below hb3).lt
    clear T
    go_wp2_with fail
    refine bodyPost_ret (v := .tuple #[rdV a1 l.length c1 a2 waits.length c2 left down, .int .i64 A]) (by simp [results, Try.results31, go_sem, y0, y1, y2, y3, hz, rdV]) rfl ⟨a2, c2, rfl, Rd.below h2 ?_, ?_, .inl ⟨rfl, rfl⟩⟩
    all_goals (iterate 4 refine Below.setCell ?_ (by simp) _)
    all_goals exact B3
  subst ha
  rw [if_neg (by simp)]
  replace hi0 := hi0 rfl
  by_cases hlen : bs.length = 64
  case neg =>
    rw [if_pos hlen]
    have hlb : ¬ (bs.length : Int) = 64 := by omega
    clear hco
    unfold strL rdV at *
    go_enter Try.func31, Try.ntmps31
    go_wp2_with fail
    refine (HAR.out _).mono ?_
    rintro e w3 ⟨rfl, hb3⟩
    obtain ⟨x0, x1, x2, x3, _, _, _, _⟩ := rw4 (T.1.below hb3)
    obtain ⟨y0, y1, y2, y3, v0, v1, v2, v3⟩ := rw4 (T.2.below hb3)
    have B3 := bel (twoB w _ _) hb3 (twoB w _ _).size
    have hz := (T.2.below hb3).lt
    clear T
    go_wp2_with fail
    refine bodyPost_ret (v := .tuple #[rdV a1 l.length c1 a2 waits.length c2 left down, .int .i64 1]) (by simp [results, Try.results31, go_sem, y0, y1, y2, y3, hz, rdV]) rfl ⟨a2, c2, rfl, Rd.below h2 ?_, ?_, .inl ⟨rfl, rfl⟩⟩
    all_goals (iterate 4 refine Below.setCell ?_ (by simp) _)
    all_goals exact B3
  rw [if_neg (by simpa using hlen)]
  by_cases h0 : left = 0
  · subst h0
    rw [if_pos rfl]
    have hc : (⟨l, waits, 0, down⟩ : Dk).counts = (⟨l, waits, 0, true⟩, 20) := rfl
    rw [hc] at hco
    simp only at hco
    have HCO := Go.Lib.hid hco
    clear hco hc
    unfold strL rdV at *
    go_enter Try.func31, Try.ntmps31
    go_wp2_with fail
    refine (HAR.out _).mono ?_
    rintro e w3 ⟨rfl, hb3⟩
    have R1 := T.1.below hb3
    have R2 := T.2.below hb3
    obtain ⟨x0, x1, x2, x3, _, _, _, _⟩ := rw4 R1
    have B3 := bel (twoB w _ _) hb3 (twoB w _ _).size
    clear T hb3
    go_wp2_with fail
    refine (HCO.out _).mono ?_
    rintro e w4 ⟨rfl, hb4⟩
    have B4 := bel B3 hb4 B3.size
    have R14 := R1.below hb4
    have R24 := R2.below hb4
    clear x0 x1 x2 x3
    obtain ⟨x0, x1, x2, x3, u0, u1, u2, u3⟩ := rw4 R14
    obtain ⟨y0, y1, y2, y3, v0, v1, v2, v3⟩ := rw4 R24
    have hz := R24.lt
    clear R1 R2 hb4
    go_wp2_with fail
    refine bodyPost_ret (v := .tuple #[rdV a1 l.length c1 a2 waits.length c2 0 true, .int .i64 20]) (by simp [results, Try.results31, go_sem, y0, y1, y2, y3, hz, rdV]) rfl ⟨a2, c2, rfl, Rd.below h2 ?_, ?_, .inl ⟨rfl, rfl⟩⟩
    all_goals (iterate 8 refine Below.setCell ?_ (by simp) _)
    all_goals exact B4
  rw [if_neg h0]
  have hc : (⟨l, waits, left, down⟩ : Dk).counts = (⟨l, waits, max (left - 1) (-1), down⟩, 0) := by simp only [Dk.counts, h0, if_false]
  rw [hc] at hco
  generalize max (left - 1) (-1) = L at *
  simp only at hco
  have HCO := Go.Lib.hid hco
  clear hco hc h0
  have HIJ := Go.Lib.hid hi0
  clear hi0
  unfold strL rdV at *
  go_enter Try.func31, Try.ntmps31
  go_wp2_with fail
  refine (HAR.out _).mono ?_
  rintro e w3 ⟨rfl, hb3⟩
  have R1 := T.1.below hb3
  have R2 := T.2.below hb3
  obtain ⟨x0, x1, x2, x3, _, _, _, _⟩ := rw4 R1
  have B3 := bel (twoB w _ _) hb3 (twoB w _ _).size
  clear T hb3
  go_wp2_with fail
  refine (HCO.out _).mono ?_
  rintro e w4 ⟨rfl, hb4⟩
  have B4 := bel B3 hb4 B3.size
  have R14 := R1.below hb4
  have R24 := R2.below hb4
  clear x0 x1 x2 x3 R1 R2 hb4
  obtain ⟨x0, x1, x2, x3, u0, u1, u2, u3⟩ := rw4 R14
  have R15 : Rw ((((w4.setCell ⟨w.heap.size, 0, none⟩ (.slice a1 l.length c1)).setCell ⟨w.heap.size, 1, none⟩ (.slice a2 waits.length c2)).setCell ⟨w.heap.size, 2, none⟩ (.int .i64 L)).setCell ⟨w.heap.size, 3, none⟩ (.bool down)) w.heap.size [.slice a1 l.length c1, .slice a2 waits.length c2, .int .i64 L, .bool down] 50 := (((R14.set 0 _).set 1 _).set 2 _).set 3 _
  have R25 := (((R24.other (g' := w.heap.size) (by omega) 0 (.slice a1 l.length c1)).other (g' := w.heap.size) (by omega) 1 (.slice a2 waits.length c2)).other (g' := w.heap.size) (by omega) 2 (.int .i64 L)).other (g' := w.heap.size) (by omega) 3 (.bool down)
  have B5 : Below w.heap.size w ((((w4.setCell ⟨w.heap.size, 0, none⟩ (.slice a1 l.length c1)).setCell ⟨w.heap.size, 1, none⟩ (.slice a2 waits.length c2)).setCell ⟨w.heap.size, 2, none⟩ (.int .i64 L)).setCell ⟨w.heap.size, 3, none⟩ (.bool down)) := (((B4.setCell (p := ⟨w.heap.size, 0, none⟩) (Nat.le_refl _) _).setCell (p := ⟨w.heap.size, 1, none⟩) (Nat.le_refl _) _).setCell (p := ⟨w.heap.size, 2, none⟩) (Nat.le_refl _) _).setCell (p := ⟨w.heap.size, 3, none⟩) (Nat.le_refl _) _
  obtain ⟨w5, hw5⟩ : ∃ w5, ((((w4.setCell ⟨w.heap.size, 0, none⟩ (.slice a1 l.length c1)).setCell ⟨w.heap.size, 1, none⟩ (.slice a2 waits.length c2)).setCell ⟨w.heap.size, 2, none⟩ (.int .i64 L)).setCell ⟨w.heap.size, 3, none⟩ (.bool down)) = w5 := ⟨_, rfl⟩
  rw [hw5] at R15 R25 B5
  have h25 := Rd.below h2 B5
  have HW5 := Go.Lib.hid hw5
  clear hw5
  go_wp2_with (first
    | (at_builtin; rw [HW5.out]; refine NB.wpList_append_at rfl (.tmp 30) (.tmp 32) 48 rfl w5.heap.size slTWs (.slice none 0 0) 0 [] rfl (World.ownsRow_nil _ _ _ _) a2 _ c2 (wsL waits) rfl h25 (ws_one _) (by omega) (by unfold maxLen; omega) (Nat.le_refl _) ?_; intro v6 w6 ho6 hg6 hv6; have hb6 : Below w5.heap.size w5 w6 := (Below.refl _ w5).grown hg6 (Nat.le_refl _) (by rintro k hk; cases hk); have R16 := R15.below hb6; have R26 := R25.below hb6; have B6 := bel B5 hb6 B5.size; rw [Nat.zero_add, List.nil_append] at ho6; obtain ⟨s0, s1, s2, s3, g0, g1, g2, g3⟩ := rw4 R16)
    | (at_builtin; have X1 := w_rd w6 i bs; have X2 := w_one i bs; have hb7 := oneB w6 (.cells #[.int .i64 i, .string ⟨bs.toArray⟩] 112); have X3 := (Kp.of_below (F := fun _ => False) hb7).own ho6 (fun _ _ h => h); have X4 := Nat.le_trans hb6.size hb7.size; have X5 : (waits.length + 1) * 24 ≤ 140737488355328 := (by omega); have X6 : waits.length + 1 ≤ maxLen := (by unfold maxLen; omega); refine NB.wpList_append_at rfl (.tmp 34) (.tmp 38) 48 rfl w5.heap.size slTWs v6 waits.length (wsL waits) rfl X3 (some ⟨w6.heap.size, 0, none⟩) 1 1 [.int .i64 i, .string ⟨bs.toArray⟩] rfl X1 X2 X5 X6 X4 ?_; intro v8 w8 ho8 hg8 hv8; have K8 : Kp (fun _ => False) w5 w8 := ((Kp.of_below (F := fun _ => False) hb6).trans (Kp.of_below (F := fun _ => False) hb7) (fun _ h => h.elim)).grown hg8 (fun k hk => .inr (ho6.lt k hk).1); have R18 := R15.keep K8 (fun h => h); have R28 := R25.keep K8 (fun h => h); have B8 := bel B5 (K8.below (fun _ h => h.elim)) B5.size; obtain ⟨a8, c8, rfl, hr8, hlo8, _⟩ := NB.rd_of_own ho8; clear s0 s1 s2 s3 g0 g1 g2 g3 X1 X2 X3 X4 X5 X6 hb7; obtain ⟨x0, x1, x2, x3, u0, u1, u2, u3⟩ := rw4 R18; obtain ⟨y0, y1, y2, y3, v0, v1, v2, v3⟩ := rw4 R28))
  have hz := R28.lt
  have hsz5 : w.heap.size + 1 < w5.heap.size := R25.lt
  have KF : Kp (fun k => k = w.heap.size ∨ k = w.heap.size + 1) w8 (((((w8.setCell ⟨w.heap.size, 1, none⟩ (.slice a8 (waits.length + 1) c8)).setCell ⟨w.heap.size + 1, 0, none⟩ (.slice a1 l.length c1)).setCell ⟨w.heap.size + 1, 1, none⟩ (.slice a8 (waits.length + 1) c8)).setCell ⟨w.heap.size + 1, 2, none⟩ (.int .i64 L)).setCell ⟨w.heap.size + 1, 3, none⟩ (.bool down)) :=
    (((((Kp.refl _ w8).setCell (x := ⟨w.heap.size, 1, none⟩) (.inl (.inl rfl)) _).setCell (x := ⟨w.heap.size + 1, 0, none⟩) (.inl (.inr rfl)) _).setCell (x := ⟨w.heap.size + 1, 1, none⟩) (.inl (.inr rfl)) _).setCell (x := ⟨w.heap.size + 1, 2, none⟩) (.inl (.inr rfl)) _).setCell (x := ⟨w.heap.size + 1, 3, none⟩) (.inl (.inr rfl)) _
  have hrf := KF.rd hr8 (fun b o e _ h => by
    have := (hlo8 b o e).1
    rcases h with h | h <;> omega)
  have e1 : wsL waits ++ [.int .i64 i, .string ⟨bs.toArray⟩] = wsL (waits ++ [(i.toNat, bs)]) := by rw [← ws_snoc, HIJ.out]; rfl
  have e2 : (waits ++ [(i.toNat, bs)]).length = waits.length + 1 := by simp
  rw [e1] at hrf
  refine bodyPost_ret (v := .tuple #[rdV a1 l.length c1 a8 (waits.length + 1) c8 L down, .int .i64 0]) (by simp [results, Try.results31, go_sem, y0, y1, y2, y3, hz, rdV]) rfl ⟨a8, c8, ?_, ?_, ?_, .inr fun b o e => Nat.le_trans B5.size (hlo8 b o e).1⟩
  · simp only [e2]
  · simp only [e2]; exact hrf
  · iterate 5 refine Below.setCell ?_ (by simp) _
    exact B8
end Go.Proofs.Ytmgkaoenjnnlmaa
namespace Go.Proofs.Ytmgkaoenjnnlmaa
open Go.RowKit
open Go.NB (Rd Dk Kp Stp Off Dis)

theorem one_rw (w : World) (a b c d : Value) (t : TypeId) : Rw (w.alloc (.cells #[a, b, c, d] t)) w.heap.size [a, b, c, d] t := rw_new w [a, b, c, d] t rfl

set_option maxRecDepth 100000 in
set_option maxHeartbeats 2000000 in
theorem rread_any (w : World) (a1 : Option Addr) (n1 c1 : Nat) (a2 : Option Addr) (n2 c2 : Nat) (D : Dk) (i : Int) (h1 : Rd 1 w a1 n1 c1 (strsL D.l)) (h2 : Rd 2 w a2 n2 c2 (wsL D.waits)) (hl : D.l.length ≤ 65536) (hw : D.waits.length ≤ 100000) :
    Calls Try.prog 44 #[rdV a1 n1 c1 a2 n2 c2 D.left D.down, .int .i64 i] w fun e w' => e = .returned (.tuple #[strL (D.read i).1, .int .i64 (D.read i).2]) ∧ Below w.heap.size w w' := by
  obtain rfl : n1 = D.l.length := by have := h1.len; rw [strs_len] at this; omega
  obtain rfl : n2 = D.waits.length := by have := h2.len; rw [wsl_len] at this; omega
  have har := fun w => rat_any w a1 D.l.length c1 a2 D.waits.length c2 D i rfl
  have hq : D.read i = if D.at_ i ≠ 0 then ([], D.at_ i) else (Dk.see (D.l.getD i.toNat []) D.waits i.toNat, 0) := rfl
  rw [hq]
  clear hq
  have hi0 : D.at_ i = 0 → 0 ≤ i ∧ i < (D.l.length : Int) := NB.at_zero
  obtain ⟨l, waits, left, down⟩ := D
  simp only at *
  have T := one_rw w (.slice a1 l.length c1) (.slice a2 waits.length c2) (.int .i64 left) (.bool down) 50
  have hbd1 := h1.bound
  have hbd2 := h2.bound
  generalize (⟨l, waits, left, down⟩ : Dk).at_ i = A at *
  have HAR := Go.Lib.hid har
  clear har
  by_cases ha : A = 0
  case neg =>
    rw [if_pos ha]
    have hab : (A == 0) = false := by simpa using ha
    clear ha
    unfold strL rdV at *
    go_enter Try.func44, Try.ntmps44
    go_wp2_with fail
    refine (HAR.out _).mono ?_
    rintro e w3 ⟨rfl, hb3⟩
    go_wp2_with fail
    go_ret2
    exact ⟨rfl, bel (oneB w _) hb3 (oneB w _).size⟩
  subst ha
  obtain ⟨hge, hlt⟩ := hi0 rfl
  obtain ⟨N, rfl⟩ := Int.eq_ofNat_of_zero_le hge
  have hN : N < l.length := by omega
  rw [if_neg (by simp), Int.toNat_natCast]
  clear hi0 hge
  have hget := strs_at l N hN
  generalize l.getD N [] = B at *
  have HG := Go.Lib.hid hget
  clear hget
  obtain ⟨R, hR⟩ : ∃ R, Dk.see B waits N = R := ⟨_, rfl⟩
  rw [hR]
  unfold rdV at *
  go_enter Try.func44, Try.ntmps44
  go_wp2_with fail
  refine (HAR.out _).mono ?_
  rintro e w3 ⟨rfl, hb3⟩
  have R3 := T.below hb3
  have B3 := bel (oneB w _) hb3 (oneB w _).size
  have h13 := Rd.below h1 B3
  have h23 := Rd.below h2 B3
  obtain ⟨x0, x1, x2, x3, _, _, _, _⟩ := rw4 R3
  clear T hb3 h1 h2
  go_wp2_with fail
  obtain ⟨b1, o1, rfl, hc1⟩ := Rd.pos h13 (by omega)
  have q1 : w3.cell? ⟨b1, o1 + N, none⟩ = some (.string ⟨B.toArray⟩) := hc1 N _ HG.out
  clear hc1 HG HAR
  have hNi : (N : Int) < (l.length : Int) := by omega
  go_loop [7] (fun x => ∃ (k : Nat) (z : Int), k ≤ waits.length ∧ x = .int .i64 z ∧ z = (k : Int) - 1 ∧ R = Dk.see B (waits.take k) N) (fun x => (intOf x + 1).toNat)
  case atStart => exact ⟨waits.length, (waits.length : Int) - 1, Nat.le_refl _, rfl, rfl, by rw [List.take_length]; exact hR.symm⟩
  case round =>
    obtain ⟨k, z, hk, rfl, hz, hse⟩ := hrel
    clear hR
    by_cases h0 : 0 < k
    · obtain ⟨m, rfl⟩ : ∃ m, k = m + 1 := ⟨k - 1, by omega⟩
      obtain rfl : z = (m : Int) := by omega
      clear hz
      obtain ⟨j, b, hjb⟩ : ∃ j b, waits[m]? = some (j, b) := ⟨_, _, List.getElem?_eq_getElem (by omega)⟩
      rw [see_succ waits B N m j b hjb] at hse
      obtain ⟨b2, o2, rfl, hc2⟩ := Rd.pos h23 (by omega)
      have q2 : w3.cell? ⟨b2, o2 + m * 2, none⟩ = some (.int .i64 (j : Int)) := hc2 _ _ (ws_at waits m _ hjb).1
      have q3 : w3.cell? ⟨b2, o2 + m * 2 + 1, none⟩ = some (.string ⟨b.toArray⟩) := by
        have := hc2 _ _ (ws_at waits m _ hjb).2
        rwa [← Nat.add_assoc] at this
      have hmi : (m : Int) < (waits.length : Int) := by omega
      have HSE := Go.Lib.hid hse
      clear hc2 hjb hse
      by_cases hj : j = N
      · subst hj
        go_wp2_with fail
        go_ret2
        have := HSE.out
        rw [if_pos (by trivial)] at this
        rw [this]
        exact ⟨rfl, B3⟩
      · have hji : ¬ (j : Int) = (N : Int) := by omega
        go_wp2_with fail
        have := HSE.out
        rw [if_neg hj] at this
        exact ⟨⟨m, (m : Int) - 1, by omega, by simp, rfl, this⟩, by simp only [intOf]; omega⟩
    · obtain rfl : k = 0 := by omega
      obtain rfl : z = -1 := by omega
      have HSE := Go.Lib.hid hse
      clear hse hz
      go_wp2_with fail
      have hse := HSE.out
      go_ret2
      rw [hse]
      exact ⟨rfl, B3⟩
end Go.Proofs.Ytmgkaoenjnnlmaa
namespace Go.Proofs.Ytmgkaoenjnnlmaa
open Go.RowKit
open Go.NB (Rd Dk Kp Stp Off Dis)

theorem lay_take (ws : List (Nat × List UInt8)) (l : List (List UInt8)) (k i : Nat) (b : List UInt8) (h : ws[k]? = some (i, b)) : Dk.lay l (ws.take (k + 1)) = (Dk.lay l (ws.take k)).set i b := by
  obtain ⟨hk, e⟩ := List.getElem?_eq_some_iff.1 h
  unfold Dk.lay
  rw [List.take_succ_eq_append_getElem hk, e, List.foldl_append]
  rfl
/-- A disk of the reference. -/
def RefD (w : World) (v : Value) (D : Dk) : Prop := ∃ a1 c1 a2 c2, v = rdV a1 D.l.length c1 a2 D.waits.length c2 D.left D.down ∧ Rd 1 w a1 D.l.length c1 (strsL D.l) ∧ Rd 2 w a2 D.waits.length c2 (wsL D.waits)
theorem RefD.below {w w' : World} {v : Value} {D : Dk} (h : RefD w v D) (hb : Below w.heap.size w w') : RefD w' v D := by
  obtain ⟨a1, c1, a2, c2, e, h1, h2⟩ := h
  exact ⟨a1, c1, a2, c2, e, Rd.below h1 hb, Rd.below h2 hb⟩
/-- The blocks that a disk of the reference lies in. -/
def locR (v : Value) (k : Nat) : Prop := ∃ a1 n1 c1 a2 n2 c2 l d o, v = rdV a1 n1 c1 a2 n2 c2 l d ∧ ((a1 = some ⟨k, o, none⟩ ∧ 0 < n1) ∨ (a2 = some ⟨k, o, none⟩ ∧ 0 < n2))
def DidR (w : World) (v0 : Value) (r : Dk × Int) (e : Ending) (w' : World) : Prop := ∃ v, e = .returned (.tuple #[v, .int .i64 r.2]) ∧ RefD w' v r.1 ∧ Below w.heap.size w w' ∧ ∀ k, locR v k → locR v0 k ∨ w.heap.size ≤ k
theorem loc_of {v0 : Value} {a1 a2 : Option Addr} {n1 c1 n2 c2 : Nat} {l : Int} {d : Bool} {B : Nat} (h1 : ∀ k o, a1 = some ⟨k, o, none⟩ → 0 < n1 → locR v0 k ∨ B ≤ k) (h2 : ∀ k o, a2 = some ⟨k, o, none⟩ → 0 < n2 → locR v0 k ∨ B ≤ k) (k : Nat) (h : locR (rdV a1 n1 c1 a2 n2 c2 l d) k) : locR v0 k ∨ B ≤ k := by
  obtain ⟨b1, m1, e1, b2, m2, e2, l2, d2, o, e, h⟩ := h
  simp only [rdV, Value.agg.injEq, Array.mk.injEq, List.cons.injEq, Value.slice.injEq] at e
  obtain ⟨⟨rfl, rfl, _⟩, ⟨rfl, rfl, _⟩, _⟩ := e
  exact h.elim (fun h => h1 k o h.1 h.2) (fun h => h2 k o h.1 h.2)
theorem loc_1 {a1 a2 : Option Addr} {n1 c1 n2 c2 : Nat} {l : Int} {d : Bool} (k o : Nat) (h : a1 = some ⟨k, o, none⟩) (hn : 0 < n1) : locR (rdV a1 n1 c1 a2 n2 c2 l d) k := ⟨_, _, _, _, _, _, _, _, o, rfl, .inl ⟨h, hn⟩⟩
theorem loc_2 {a1 a2 : Option Addr} {n1 c1 n2 c2 : Nat} {l : Int} {d : Bool} (k o : Nat) (h : a2 = some ⟨k, o, none⟩) (hn : 0 < n2) : locR (rdV a1 n1 c1 a2 n2 c2 l d) k := ⟨_, _, _, _, _, _, _, _, o, rfl, .inr ⟨h, hn⟩⟩
theorem loc_same {a1 a2 : Option Addr} {n1 c1 n2 c2 c1' c2' : Nat} {l l' : Int} {d d' : Bool} (k : Nat) (h : locR (rdV a1 n1 c1 a2 n2 c2 l d) k) : locR (rdV a1 n1 c1' a2 n2 c2' l' d') k := by
  obtain ⟨b1, m1, e1, b2, m2, e2, l2, d2, o, e, h⟩ := h
  simp only [rdV, Value.agg.injEq, Array.mk.injEq, List.cons.injEq, Value.slice.injEq] at e
  obtain ⟨⟨rfl, rfl, _⟩, ⟨rfl, rfl, _⟩, _⟩ := e
  exact ⟨_, _, _, _, _, _, _, _, o, rfl, h⟩
theorem rd_low {w : World} {size : Nat} {a : Option Addr} {n c : Nat} {vs : List Value} (h : Rd size w a n c vs) (b o : Nat) (e : a = some ⟨b, o, none⟩) (hn : vs ≠ []) : b < w.heap.size := by
  obtain ⟨x, t, rfl⟩ := List.exists_cons_of_ne_nil hn
  exact World.block_lt_of_cell? _ _ (h.cell b o e 0 x rfl)

set_option maxRecDepth 100000 in
set_option maxHeartbeats 4000000 in
theorem rsync_any (w : World) (v : Value) (D : Dk) (h : RefD w v D) (hl : -1 ≤ D.left) (hl2 : D.left ≤ 9223372036854775807) (hln : D.l.length ≤ 65536) (hw : D.waits.length ≤ 100000) (hwi : ∀ x ∈ D.waits, x.1 < D.l.length) :
    Calls Try.prog 49 #[v] w (DidR w v D.sync) := by
  obtain ⟨a1, c1, a2, c2, rfl, h1, h2⟩ := h
  have hco := fun w => rcounts_any w a1 D.l.length c1 a2 D.waits.length c2 D hl hl2
  have hq : D.sync = if D.down then (D, 20) else if D.left = 0 then ({ D with down := true }, 20) else ({ D with left := max (D.left - 1) (-1), l := Dk.lay D.l D.waits, waits := [] }, 0) := rfl
  rw [hq]
  clear hq
  obtain ⟨l, waits, left, down⟩ := D
  have T := two_rw w (.slice a1 l.length c1) (.slice a2 waits.length c2) (.int .i64 left) (.bool down) (.slice none 0 0) (.slice none 0 0) (.int .i64 0) (.bool false) 50 50
  simp only at *
  have hbd1 := h1.bound
  have hbd2 := h2.bound
  cases down with
  | true =>
    rw [if_pos rfl]
    clear hco
    unfold rdV at *
    go_enter Try.func49, Try.ntmps49
    go_wp2
    exact bodyPost_ret (v := .tuple #[rdV a1 l.length c1 a2 waits.length c2 left true, .int .i64 20]) (by simp [results, Try.results49, go_sem, rdV]) rfl ⟨_, rfl, ⟨a1, c1, a2, c2, rfl, Rd.below h1 (twoB _ _ _), Rd.below h2 (twoB _ _ _)⟩, twoB _ _ _, fun k h => .inl (loc_same k h)⟩
  | false =>
  rw [if_neg (by simp)]
  by_cases h0 : left = 0
  · subst h0
    rw [if_pos rfl]
    have hc : (⟨l, waits, 0, false⟩ : Dk).counts = (⟨l, waits, 0, true⟩, 20) := rfl
    rw [hc] at hco
    simp only at hco
    have HCO := Go.Lib.hid hco
    clear hco hc
    unfold rdV at *
    go_enter Try.func49, Try.ntmps49
    go_wp2_with fail
    refine (HCO.out _).mono ?_
    rintro e w4 ⟨rfl, hb4⟩
    have B4 := bel (twoB w _ _) hb4 (twoB w _ _).size
    have R14 := T.1.below hb4
    have R24 := T.2.below hb4
    obtain ⟨x0, x1, x2, x3, u0, u1, u2, u3⟩ := rw4 R14
    obtain ⟨y0, y1, y2, y3, v0, v1, v2, v3⟩ := rw4 R24
    have hz := R24.lt
    clear T hb4
    go_wp2_with fail
    have BF : ∀ w9 : World, Below w.heap.size w w9 → RefD w9 (rdV a1 l.length c1 a2 waits.length c2 0 true) ⟨l, waits, 0, true⟩ := fun w9 hb => ⟨a1, c1, a2, c2, rfl, Rd.below h1 hb, Rd.below h2 hb⟩
    refine bodyPost_ret (v := .tuple #[rdV a1 l.length c1 a2 waits.length c2 0 true, .int .i64 20]) (by simp [results, Try.results49, go_sem, y0, y1, y2, y3, hz, rdV]) rfl ⟨_, rfl, BF _ ?_, ?_, fun k h => .inl (loc_same k h)⟩
    all_goals (iterate 8 refine Below.setCell ?_ (by simp) _)
    all_goals exact B4
  rw [if_neg h0]
  have hc : (⟨l, waits, left, false⟩ : Dk).counts = (⟨l, waits, max (left - 1) (-1), false⟩, 0) := by simp only [Dk.counts, h0, if_false]
  rw [hc] at hco
  generalize max (left - 1) (-1) = L at *
  simp only at hco
  have HCO := Go.Lib.hid hco
  clear hco hc h0
  unfold rdV at *
  go_enter Try.func49, Try.ntmps49
  go_wp2_with fail
  refine (HCO.out _).mono ?_
  rintro e w4 ⟨rfl, hb4⟩
  have B4 := bel (twoB w _ _) hb4 (twoB w _ _).size
  have R14 := T.1.below hb4
  have R24 := T.2.below hb4
  clear T hb4
  obtain ⟨x0, x1, x2, x3, u0, u1, u2, u3⟩ := rw4 R14
  have R15 : Rw ((((w4.setCell ⟨w.heap.size, 0, none⟩ (.slice a1 l.length c1)).setCell ⟨w.heap.size, 1, none⟩ (.slice a2 waits.length c2)).setCell ⟨w.heap.size, 2, none⟩ (.int .i64 L)).setCell ⟨w.heap.size, 3, none⟩ (.bool false)) w.heap.size [.slice a1 l.length c1, .slice a2 waits.length c2, .int .i64 L, .bool false] 50 := (((R14.set 0 _).set 1 _).set 2 _).set 3 _
  have R25 := (((R24.other (g' := w.heap.size) (by omega) 0 (.slice a1 l.length c1)).other (g' := w.heap.size) (by omega) 1 (.slice a2 waits.length c2)).other (g' := w.heap.size) (by omega) 2 (.int .i64 L)).other (g' := w.heap.size) (by omega) 3 (.bool false)
  have B5 : Below w.heap.size w ((((w4.setCell ⟨w.heap.size, 0, none⟩ (.slice a1 l.length c1)).setCell ⟨w.heap.size, 1, none⟩ (.slice a2 waits.length c2)).setCell ⟨w.heap.size, 2, none⟩ (.int .i64 L)).setCell ⟨w.heap.size, 3, none⟩ (.bool false)) := (((B4.setCell (p := ⟨w.heap.size, 0, none⟩) (Nat.le_refl _) _).setCell (p := ⟨w.heap.size, 1, none⟩) (Nat.le_refl _) _).setCell (p := ⟨w.heap.size, 2, none⟩) (Nat.le_refl _) _).setCell (p := ⟨w.heap.size, 3, none⟩) (Nat.le_refl _) _
  go_wp2_with fail
  generalize ((((w4.setCell ⟨w.heap.size, 0, none⟩ (.slice a1 l.length c1)).setCell ⟨w.heap.size, 1, none⟩ (.slice a2 waits.length c2)).setCell ⟨w.heap.size, 2, none⟩ (.int .i64 L)).setCell ⟨w.heap.size, 3, none⟩ (.bool false)) = w5 at *
  have h15 := Rd.below h1 B5
  have hlow := rd_low h1
  clear x0 x1 x2 x3 u0 u1 u2 u3 R14 R24 B4 h1
  go_loopw [5] (fun x wr => ∃ (k : Nat) (a : Option Addr) (c : Nat), k ≤ waits.length ∧ x = .int .i64 k ∧ Rw wr w.heap.size [.slice a l.length c, .slice a2 waits.length c2, .int .i64 L, .bool false] 50 ∧ Rw wr (w.heap.size + 1) [.slice none 0 0, .slice none 0 0, .int .i64 0, .bool false] 50 ∧ Rd 1 wr a l.length c (strsL (Dk.lay l (waits.take k))) ∧ (∀ b o, a = some ⟨b, o, none⟩ → strsL (Dk.lay l (waits.take k)) ≠ [] → b ≠ w.heap.size ∧ b ≠ w.heap.size + 1) ∧ Below w.heap.size w wr ∧ (a = a1 ∨ ∀ b o, a = some ⟨b, o, none⟩ → w.heap.size ≤ b)) (fun x _ => waits.length - (intOf x).toNat)
  case atStart => exact ⟨0, a1, c1, by omega, rfl, R15, R25, h15, fun b o e hn => by have := hlow b o e hn; omega, B5, .inl rfl⟩
  case round =>
    clear R15 R25 h15 B5 hlow
    obtain ⟨k, a, c, hk, rfl, R1, R2, hr1, hnf, hB, hloc⟩ := hrel
    have hbd := hr1.bound
    have hXl : (Dk.lay l (waits.take k)).length = l.length := lay_len _ _
    by_cases hlt : k < waits.length
    · obtain ⟨j, b, hjb⟩ : ∃ j b, waits[k]? = some (j, b) := ⟨_, _, List.getElem?_eq_getElem hlt⟩
      have hjl : j < l.length := hwi (j, b) (List.mem_of_getElem? hjb)
      have hls := lay_take waits l k j b hjb
      have HLS := Go.Lib.hid hls
      clear hls
      generalize Dk.lay l (waits.take k) = X at *
      have x1 := R1.cell 1 _ rfl
      have hki : (k : Int) < (waits.length : Int) := by omega
      go_wp2_with fail
      clear x1 hki
      refine NB.wp_region_t [16] (by kernel_rfl) ?_
      have R16 := R1.below (Below.refl _ wr).drew
      have R26 := R2.below (Below.refl _ wr).drew
      have h16 := Rd.below hr1 (Below.refl _ wr).drew
      have B6 : Below w.heap.size w wr.drew := hB.drew
      generalize wr.drew = w6 at *
      have h26 := Rd.below h2 B6
      obtain ⟨b2, o2, rfl, hc2⟩ := Rd.pos h26 (by omega)
      have q2 : w6.cell? ⟨b2, o2 + k * 2, none⟩ = some (.int .i64 (j : Int)) := hc2 _ _ (ws_at waits k _ hjb).1
      have q3 : w6.cell? ⟨b2, o2 + k * 2 + 1, none⟩ = some (.string ⟨b.toArray⟩) := by have := hc2 _ _ (ws_at waits k _ hjb).2; rwa [← Nat.add_assoc] at this
      have x0 := R16.cell 0 _ rfl
      have x1 := R16.cell 1 _ rfl
      have hki : (k : Int) < (waits.length : Int) := by omega
      have hjb' := Go.Lib.hid hjb
      clear hc2 hjb
      refine NB.t_p 0 rfl (by kernel_rfl) (fun K hK => ?_); go_simp; refine hK _ ?_; clear hK K
      refine NB.t_r 1 [14, 15, 16] rfl (by kernel_rfl) (by kernel_rfl) rfl _ (fun w' hw' => NB.run_op_load rfl rfl Try.underlying32 rfl (x0) hw') (fun K hK => ?_); go_simp; refine hK _ ?_; clear hK K
      refine NB.t_p 2 rfl (by kernel_rfl) (fun K hK => ?_); go_simp; refine hK _ ?_; clear hK K
      refine NB.t_r 3 [5, 6, 7, 14, 15, 16] rfl (by kernel_rfl) (by kernel_rfl) rfl _ (fun w' hw' => NB.run_op_load rfl rfl Try.underlying48 rfl (x1) hw') (fun K hK => ?_); go_simp; refine hK _ ?_; clear hK K
      refine NB.t_p 4 rfl (by kernel_rfl) (fun K hK => ?_); go_simp; refine hK _ ?_; clear hK K
      refine NB.t_p 5 rfl (by kernel_rfl) (fun K hK => ?_); go_simp; refine hK _ ?_; clear hK K
      refine NB.t_p 6 rfl (by kernel_rfl) (fun K hK => ?_); go_simp; refine hK _ ?_; clear hK K
      refine NB.t_r 7 [14, 15, 16] rfl (by kernel_rfl) (by kernel_rfl) rfl _ (fun w' hw' => NB.run_op_load rfl rfl Try.underlying3 rfl (q2) hw') (fun K hK => ?_); go_simp; refine hK _ ?_; clear hK K
      refine NB.t_p 8 rfl (by kernel_rfl) (fun K hK => ?_); go_simp; refine hK _ ?_; clear hK K
      refine NB.t_r 9 [11, 12, 13, 14, 15, 16] rfl (by kernel_rfl) (by kernel_rfl) rfl _ (fun w' hw' => NB.run_op_load rfl rfl Try.underlying48 rfl (x1) hw') (fun K hK => ?_); go_simp; refine hK _ ?_; clear hK K
      refine NB.t_p 10 rfl (by kernel_rfl) (fun K hK => ?_); go_simp; refine hK _ ?_; clear hK K
      refine NB.t_p 11 rfl (by kernel_rfl) (fun K hK => ?_); go_simp; refine hK _ ?_; clear hK K
      refine NB.t_p 12 rfl (by kernel_rfl) (fun K hK => ?_); go_simp; refine hK _ ?_; clear hK K
      refine NB.t_r 13 [14, 15, 16] rfl (by kernel_rfl) (by kernel_rfl) rfl _ (fun w' hw' => NB.run_op_load rfl rfl Try.underlying9 rfl (q3) hw') (fun K hK => ?_); go_simp; refine hK _ ?_; clear hK K
      refine NB.t_e 14 rfl (by kernel_rfl) (by kernel_rfl) (fun K hK => ?_); unfold NB.tmoves; go_simp; refine (rput_any _ _ _ _ X h16 j (by omega) b (by omega)).mono ?_; rintro e w7 ⟨a7, c7, rfl, hr7, hb7, hlo7⟩; refine ⟨_, rfl, hb7, hK _ _ ?_⟩; clear hK K
      have R17 := R16.below hb7
      have R27 := R26.below hb7
      have B7 := bel B6 hb7 B6.size
      refine NB.t_p 15 rfl (by kernel_rfl) (fun K hK => ?_); go_simp; refine hK _ ?_; clear hK K
      refine NB.t_w 16 rfl (by kernel_rfl) (by kernel_rfl) rfl (fun Q' hK => ?_)
      have x0 := R17.cell 0 _ rfl
      have u0 := R17.free 0
      go_wp2_with fail
      refine NB.t_end (by kernel_rfl) ?_
      have hsz7 := R27.lt
      have hsz6 := R26.lt
      have KF : Kp (fun k => k = w.heap.size) w7 (w7.setCell ⟨w.heap.size, 0, none⟩ (.slice a7 l.length c7)) := (Kp.refl (fun k => k = w.heap.size) w7).setCell (x := ⟨w.heap.size, 0, none⟩) (.inl rfl) _
      have hrF := KF.rd hr7 (fun b o e _ h => by have := hlo7 b o e; omega)
      have RF1 := R17.set 0 (.slice a7 l.length c7)
      have RF2 := R27.other (g' := w.heap.size) (by omega) 0 (.slice a7 l.length c7)
      have BF : Below w.heap.size w (w7.setCell ⟨w.heap.size, 0, none⟩ (.slice a7 l.length c7)) := B7.setCell (p := ⟨w.heap.size, 0, none⟩) (Nat.le_refl _) _
      go_wp2_with fail
      exact ⟨⟨k + 1, a7, c7, by omega, by simp, RF1, RF2, by rw [HLS.out]; exact hrF, fun b o e _ => by have := hlo7 b o e; omega, BF, .inr fun b o e => by have := hlo7 b o e; have := B6.size; omega⟩, by simp [intOf]; omega⟩
    · obtain rfl : k = waits.length := by omega
      rw [List.take_length] at hr1 hnf hXl
      obtain ⟨x0, x1, x2, x3, u0, u1, u2, u3⟩ := rw4 R1
      obtain ⟨y0, y1, y2, y3, v0, v1, v2, v3⟩ := rw4 R2
      have hz := R2.lt
      go_wp2_with fail
      have KF : Kp (fun k => k = w.heap.size ∨ k = w.heap.size + 1) wr (((((wr.setCell ⟨w.heap.size, 1, none⟩ (.slice none 0 0)).setCell ⟨w.heap.size + 1, 0, none⟩ (.slice a l.length c)).setCell ⟨w.heap.size + 1, 1, none⟩ (.slice none 0 0)).setCell ⟨w.heap.size + 1, 2, none⟩ (.int .i64 L)).setCell ⟨w.heap.size + 1, 3, none⟩ (.bool false)) :=
        (((((Kp.refl _ wr).setCell (x := ⟨w.heap.size, 1, none⟩) (.inl (.inl rfl)) _).setCell (x := ⟨w.heap.size + 1, 0, none⟩) (.inl (.inr rfl)) _).setCell (x := ⟨w.heap.size + 1, 1, none⟩) (.inl (.inr rfl)) _).setCell (x := ⟨w.heap.size + 1, 2, none⟩) (.inl (.inr rfl)) _).setCell (x := ⟨w.heap.size + 1, 3, none⟩) (.inl (.inr rfl)) _
      have hrF := KF.rd hr1 (fun b o e hn h => by
        have := hnf b o e hn
        rcases h with h | h <;> omega)
      refine bodyPost_ret (v := .tuple #[rdV a l.length c none 0 0 L false, .int .i64 0]) (by simp [results, Try.results49, go_sem, y0, y1, y2, y3, hz, rdV]) rfl ⟨_, rfl, ⟨a, c, none, 0, ?_, ?_, NB.Rd.nil_mk⟩, ?_, loc_of (fun k o e hn => hloc.elim (fun h => .inl (loc_1 k o (h ▸ e) hn)) (fun h => .inr (h k o e))) (fun k o e => nomatch e)⟩
      · simp only [hXl]; rfl
      · simp only [hXl]; exact hrF
      · iterate 5 refine Below.setCell ?_ (by simp) _
        exact hB
end Go.Proofs.Ytmgkaoenjnnlmaa
namespace Go.Proofs.Ytmgkaoenjnnlmaa
open Go.RowKit
open Go.NB (Rd Dk Kp Stp Off Dis)

theorem tears_nil (l : List (List UInt8)) (ws : List (Nat × List UInt8)) : Dk.tears l ws [] = l := by cases ws <;> rfl
theorem tears_out (ws : List (Nat × List UInt8)) : ∀ (l : List (List UInt8)) (pick : List UInt8) (k : Nat), pick.length ≤ k → Dk.tears l (ws.take k) pick = Dk.tears l ws pick := by
  induction ws with
  | nil => intro l pick k h; simp
  | cons x ws ih =>
    intro l pick k h
    cases pick with
    | nil => rw [tears_nil, tears_nil]
    | cons c pick =>
      obtain ⟨m, rfl⟩ : ∃ m, k = m + 1 := ⟨k - 1, by simp at h; omega⟩
      exact ih (Dk.tear l x (c.toNat % 65)) pick m (by simpa using h)
theorem tears_64 (ws : List (Nat × List UInt8)) : ∀ (l : List (List UInt8)) (pick : List UInt8), (∀ b ∈ l, b.length = 64) → (∀ x ∈ ws, x.2.length = 64 ∧ x.1 < l.length) → ∀ b ∈ Dk.tears l ws pick, b.length = 64 := by
  induction ws with
  | nil => intro l pick h _; exact h
  | cons x ws ih =>
    intro l pick h hw
    cases pick with
    | nil => exact h
    | cons c pick =>
      have hx := hw x List.mem_cons_self
      refine ih (Dk.tear l x (c.toNat % 65)) pick (fun b hb => ?_) (fun y hy => by have := hw y (List.mem_cons_of_mem _ hy); simpa [Dk.tear] using this)
      have hg : (l.getD x.1 []).length = 64 := by
        rw [List.getD_eq_getElem?_getD, List.getElem?_eq_getElem hx.2]; exact h _ (List.getElem_mem hx.2)
      rcases List.mem_or_eq_of_mem_set hb with hb | rfl
      · exact h b hb
      · rw [List.length_append, List.length_take, List.length_drop, hx.1, hg]; omega
def GaveR (w : World) (v0 : Value) (D : Dk) (e : Ending) (w' : World) : Prop := ∃ v, e = .returned v ∧ RefD w' v D ∧ Below w.heap.size w w' ∧ ∀ k, locR v k → locR v0 k ∨ w.heap.size ≤ k

set_option maxRecDepth 100000 in
set_option maxHeartbeats 4000000 in
theorem rcrash_any (w : World) (v : Value) (D : Dk) (pick : List UInt8) (h : RefD w v D) (hln : D.l.length ≤ 65536) (hw : D.waits.length ≤ 100000) (h64 : ∀ b ∈ D.l, b.length = 64) (hwi : ∀ x ∈ D.waits, x.2.length = 64 ∧ x.1 < D.l.length) (hpl : pick.length ≤ 1000000) :
    Calls Try.prog 32 #[v, strL pick] w (GaveR w v (D.crash pick)) := by
  obtain ⟨a1, c1, a2, c2, rfl, h1, h2⟩ := h
  obtain ⟨l, waits, left, down⟩ := D
  have T := two_rw w (.slice a1 l.length c1) (.slice a2 waits.length c2) (.int .i64 left) (.bool down) (.slice none 0 0) (.slice none 0 0) (.int .i64 0) (.bool false) 50 50
  simp only at *
  have hbd1 := h1.bound
  have hbd2 := h2.bound
  unfold rdV strL at *
  go_enter Try.func32, Try.ntmps32
  go_wp2_with fail
  have B5 := twoB w (.cells #[.slice a1 l.length c1, .slice a2 waits.length c2, .int .i64 left, .bool down] 50) (.cells #[.slice none 0 0, .slice none 0 0, .int .i64 0, .bool false] 50)
  generalize (w.alloc (.cells #[.slice a1 l.length c1, .slice a2 waits.length c2, .int .i64 left, .bool down] 50)).alloc (.cells #[.slice none 0 0, .slice none 0 0, .int .i64 0, .bool false] 50) = w3 at *
  obtain ⟨R15, R25⟩ := T
  have h15 := Rd.below h1 B5
  have hlow := rd_low h1
  clear h1
  go_loopw [5] (fun x wr => ∃ (k : Nat) (a : Option Addr) (c : Nat), k ≤ waits.length ∧ k ≤ pick.length ∧ x = .int .i64 k ∧ Rw wr w.heap.size [.slice a l.length c, .slice a2 waits.length c2, .int .i64 left, .bool down] 50 ∧ Rw wr (w.heap.size + 1) [.slice none 0 0, .slice none 0 0, .int .i64 0, .bool false] 50 ∧ Rd 1 wr a l.length c (strsL (Dk.tears l (waits.take k) pick)) ∧ (∀ b o, a = some ⟨b, o, none⟩ → strsL (Dk.tears l (waits.take k) pick) ≠ [] → b ≠ w.heap.size ∧ b ≠ w.heap.size + 1) ∧ Below w.heap.size w wr ∧ (a = a1 ∨ ∀ b o, a = some ⟨b, o, none⟩ → w.heap.size ≤ b)) (fun x _ => waits.length - (intOf x).toNat)
  case atStart => exact ⟨0, a1, c1, by omega, by omega, rfl, R15, R25, h15, fun b o e hn => by have := hlow b o e hn; omega, B5, .inl rfl⟩
  case round =>
    clear R15 R25 h15 B5 hlow
    obtain ⟨k, a, c, hk, hkp, rfl, R1, R2, hr1, hnf, hB, hloc⟩ := hrel
    have hbd := hr1.bound
    have hXl : (Dk.tears l (waits.take k) pick).length = l.length := NB.tears_len _ _ _
    have hX64 := tears_64 (waits.take k) l pick h64 (fun x hx => hwi x (List.mem_of_mem_take hx))
    have h2r := Rd.below h2 hB
    by_cases hlt : k < waits.length ∧ k < pick.length
    · obtain ⟨hlt, hlp⟩ := hlt
      obtain ⟨j, b, hjb⟩ : ∃ j b, waits[k]? = some (j, b) := ⟨_, _, List.getElem?_eq_getElem hlt⟩
      obtain ⟨hb64, hjl⟩ : b.length = 64 ∧ j < l.length := hwi (j, b) (List.mem_of_getElem? hjb)
      have hls := NB.tears_succ waits l pick k _ hjb
      rw [if_pos hlp, Dk.tear] at hls
      have HLS := Go.Lib.hid hls
      clear hls
      generalize Dk.tears l (waits.take k) pick = X at *
      have hg : (X.getD j []).length = 64 := by
        rw [List.getD_eq_getElem?_getD, List.getElem?_eq_getElem (by omega)]; exact hX64 _ (List.getElem_mem (by omega))
      obtain ⟨b2, o2, rfl, hc2⟩ := Rd.pos h2r (by omega)
      have q2 : wr.cell? ⟨b2, o2 + k * 2, none⟩ = some (.int .i64 (j : Int)) := hc2 _ _ (ws_at waits k _ hjb).1
      have q3 : wr.cell? ⟨b2, o2 + k * 2 + 1, none⟩ = some (.string ⟨b.toArray⟩) := by have := hc2 _ _ (ws_at waits k _ hjb).2; rwa [← Nat.add_assoc] at this
      have x1 := R1.cell 1 _ rfl
      have hki : (k : Int) < (waits.length : Int) := by omega
      have hkpi : (k : Int) < (pick.length : Int) := by omega
      have hks : k < (⟨pick.toArray⟩ : ByteArray).size := by show k < pick.toArray.size; simpa using hlp
      have hyk : pick.getD k 0 = (⟨pick.toArray⟩ : ByteArray)[k]'hks := by rw [List.getD_eq_getElem?_getD, List.getElem?_eq_getElem hlp]; rfl
      have hyN := mod65 ((⟨pick.toArray⟩ : ByteArray)[k]'hks)
      rw [← hyk] at hyN
      obtain ⟨N, hN⟩ : ∃ N, (pick.getD k 0).toNat % 65 = N := ⟨_, rfl⟩
      have hls := HLS.out
      obtain ⟨Y, hY⟩ : ∃ Y, X.getD j [] = Y := ⟨_, rfl⟩
      simp only [hN, hY] at hls
      rw [hN] at hyN
      rw [hyk] at hyN
      rw [hY] at hg
      clear HLS
      have HLS := Go.Lib.hid hls
      have HY := Go.Lib.hid hY
      have hN64 : N ≤ 64 := by omega
      have hYt : Y.take 64 = Y := List.take_of_length_le (by omega)
      have hN64i : (N : Int) ≤ 64 := by omega
      clear hls hY hyk hN
      have hsz := R2.lt
      go_wp2_with fail
      have W5 : Rw (wr.alloc (.cells #[.int .i64 (j : Int), .string ⟨b.toArray⟩] 112)) wr.heap.size [.int .i64 (j : Int), .string ⟨b.toArray⟩] 112 := rw_new wr [.int .i64 (j : Int), .string ⟨b.toArray⟩] _ rfl
      have hwb := oneB wr (.cells #[.int .i64 (j : Int), .string ⟨b.toArray⟩] 112)
      have B5 := bel hB hwb hB.size
      have hr5 := Rd.below hr1 hwb
      replace R1 := R1.below hwb
      replace R2 := R2.below hwb
      generalize hgq : wr.heap.size = gq at *
      generalize wr.alloc (.cells #[.int .i64 (j : Int), .string ⟨b.toArray⟩] 112) = w5 at *
      clear x1 q2 q3 hc2 h2r hr1 hB hwb
      refine NB.wp_region_t [19] (by kernel_rfl) ?_
      have R16 := R1.below (Below.refl _ w5).drew
      have R26 := R2.below (Below.refl _ w5).drew
      have W6 := W5.below (Below.refl _ w5).drew
      have h16 := Rd.below hr5 (Below.refl _ w5).drew
      have B6 : Below w.heap.size w w5.drew := B5.drew
      generalize w5.drew = w6 at *
      have x0 := R16.cell 0 _ rfl
      have m0 := W6.cell 0 _ rfl
      have m1 := W6.cell 1 _ rfl
      obtain ⟨b1, o1, rfl, hc1⟩ := Rd.pos h16 (by omega)
      have q4 : w6.cell? ⟨b1, o1 + j, none⟩ = some (.string ⟨Y.toArray⟩) := by have h := hc1 j _ (strs_at X j (by omega)); rw [HY.out] at h; exact h
      clear hc1
      refine NB.t_p 0 rfl (by kernel_rfl) (fun K hK => ?_); go_simp; refine hK _ ?_; clear hK K
      refine NB.t_r 1 [17, 18, 19] rfl (by kernel_rfl) (by kernel_rfl) rfl _ (fun w' hw' => NB.run_op_load rfl rfl Try.underlying32 rfl (x0) hw') (fun K hK => ?_); go_simp; refine hK _ ?_; clear hK K
      refine NB.t_p 2 rfl (by kernel_rfl) (fun K hK => ?_); go_simp; refine hK _ ?_; clear hK K
      refine NB.t_r 3 [17, 18, 19] rfl (by kernel_rfl) (by kernel_rfl) rfl _ (fun w' hw' => NB.run_op_load rfl rfl Try.underlying3 rfl (m0) hw') (fun K hK => ?_); go_simp; refine hK _ ?_; clear hK K
      refine NB.t_p 4 rfl (by kernel_rfl) (fun K hK => ?_); go_simp; refine hK _ ?_; clear hK K
      refine NB.t_r 5 [7, 16, 17, 18, 19] rfl (by kernel_rfl) (by kernel_rfl) rfl _ (fun w' hw' => NB.run_op_load rfl rfl Try.underlying9 rfl (m1) hw') (fun K hK => ?_); go_simp; refine hK _ ?_; clear hK K
      refine NB.t_p 6 rfl (by kernel_rfl) (fun K hK => ?_); go_simp; refine hK _ ?_; clear hK K
      refine NB.t_p 7 rfl (by kernel_rfl) (fun K hK => ?_); go_simp; refine hK _ ?_; clear hK K
      refine NB.t_p 8 rfl (by kernel_rfl) (fun K hK => ?_); go_simp; refine hK _ ?_; clear hK K
      refine NB.t_r 9 [12, 13, 15, 16, 17, 18, 19] rfl (by kernel_rfl) (by kernel_rfl) rfl _ (fun w' hw' => NB.run_op_load rfl rfl Try.underlying32 rfl (x0) hw') (fun K hK => ?_); go_simp; refine hK _ ?_; clear hK K
      refine NB.t_p 10 rfl (by kernel_rfl) (fun K hK => ?_); go_simp; refine hK _ ?_; clear hK K
      refine NB.t_r 11 [12, 13, 15, 16, 17, 18, 19] rfl (by kernel_rfl) (by kernel_rfl) rfl _ (fun w' hw' => NB.run_op_load rfl rfl Try.underlying3 rfl (m0) hw') (fun K hK => ?_); go_simp; refine hK _ ?_; clear hK K
      refine NB.t_p 12 rfl (by kernel_rfl) (fun K hK => ?_); go_simp; refine hK _ ?_; clear hK K
      refine NB.t_r 13 [15, 16, 17, 18, 19] rfl (by kernel_rfl) (by kernel_rfl) rfl _ (fun w' hw' => NB.run_op_load rfl rfl Try.underlying9 rfl (q4) hw') (fun K hK => ?_); go_simp; refine hK _ ?_; clear hK K
      refine NB.t_p 14 rfl (by kernel_rfl) (fun K hK => ?_); go_simp; refine hK _ ?_; clear hK K
      refine NB.t_p 15 rfl (by kernel_rfl) (fun K hK => ?_); go_simp; refine hK _ ?_; clear hK K
      refine NB.t_p 16 rfl (by kernel_rfl) (fun K hK => ?_); go_simp; refine hK _ ?_; clear hK K
      refine NB.t_e 17 rfl (by kernel_rfl) (by kernel_rfl) (fun K hK => ?_); unfold NB.tmoves; go_simp; refine (rput_any _ _ _ _ X h16 j (by omega) (b.take N ++ Y.drop N) (by omega)).mono ?_; rintro e w7 ⟨a7, c7, rfl, hr7, hb7, hlo7⟩; refine ⟨_, rfl, hb7, hK _ _ ?_⟩; clear hK K
      have R17 := R16.below hb7
      have R27 := R26.below hb7
      have B7 := bel B6 hb7 B6.size
      refine NB.t_p 18 rfl (by kernel_rfl) (fun K hK => ?_); go_simp; refine hK _ ?_; clear hK K
      refine NB.t_w 19 rfl (by kernel_rfl) (by kernel_rfl) rfl (fun Q' hK => ?_)
      have x0 := R17.cell 0 _ rfl
      have u0 := R17.free 0
      go_wp2_with fail
      refine NB.t_end (by kernel_rfl) ?_
      have hsz7 := R27.lt
      have hsz6 := R26.lt
      have KF : Kp (fun k => k = w.heap.size) w7 (w7.setCell ⟨w.heap.size, 0, none⟩ (.slice a7 l.length c7)) := (Kp.refl (fun k => k = w.heap.size) w7).setCell (x := ⟨w.heap.size, 0, none⟩) (.inl rfl) _
      have hrF := KF.rd hr7 (fun b o e _ h => by have := hlo7 b o e; omega)
      have RF1 := R17.set 0 (.slice a7 l.length c7)
      have RF2 := R27.other (g' := w.heap.size) (by omega) 0 (.slice a7 l.length c7)
      have BF : Below w.heap.size w (w7.setCell ⟨w.heap.size, 0, none⟩ (.slice a7 l.length c7)) := B7.setCell (p := ⟨w.heap.size, 0, none⟩) (Nat.le_refl _) _
      go_wp2_with fail
      exact ⟨⟨k + 1, a7, c7, by omega, by omega, by simp, RF1, RF2, by rw [HLS.out]; exact hrF, fun b o e _ => by have := hlo7 b o e; omega, BF, .inr fun b o e => by have := hlo7 b o e; have := B6.size; omega⟩, by simp [intOf]; omega⟩
    · have hfin : Dk.tears l (waits.take k) pick = Dk.tears l waits pick := by
        rcases Nat.lt_or_ge k waits.length with h | h
        · exact tears_out waits l pick k (by omega)
        · rw [List.take_of_length_le h]
      rw [hfin] at hr1 hnf hXl
      obtain ⟨x0, x1, x2, x3, u0, u1, u2, u3⟩ := rw4 R1
      obtain ⟨y0, y1, y2, y3, v0, v1, v2, v3⟩ := rw4 R2
      have hz := R2.lt
      by_cases hkw : k < waits.length
      · have hki : (k : Int) < (waits.length : Int) := by omega
        have hkpi : ¬ (k : Int) < (pick.length : Int) := by omega
        go_wp2_with fail
        have KF : Kp (fun k => k = w.heap.size ∨ k = w.heap.size + 1) wr ((((wr.setCell ⟨w.heap.size + 1, 0, none⟩ (.slice a l.length c)).setCell ⟨w.heap.size + 1, 1, none⟩ (.slice none 0 0)).setCell ⟨w.heap.size + 1, 2, none⟩ (.int .i64 (-1))).setCell ⟨w.heap.size + 1, 3, none⟩ (.bool false)) :=
          ((((Kp.refl _ wr).setCell (x := ⟨w.heap.size + 1, 0, none⟩) (.inl (.inr rfl)) _).setCell (x := ⟨w.heap.size + 1, 1, none⟩) (.inl (.inr rfl)) _).setCell (x := ⟨w.heap.size + 1, 2, none⟩) (.inl (.inr rfl)) _).setCell (x := ⟨w.heap.size + 1, 3, none⟩) (.inl (.inr rfl)) _
        have hrF := KF.rd hr1 (fun b o e hn h => by
          have := hnf b o e hn
          rcases h with h | h <;> omega)
        refine bodyPost_ret (v := rdV a l.length c none 0 0 (-1) false) (by simp [results, Try.results32, go_sem, y0, y1, y2, y3, hz, rdV]) rfl ⟨_, rfl, ⟨a, c, none, 0, ?_, ?_, NB.Rd.nil_mk⟩, ?_, loc_of (fun k o e hn => hloc.elim (fun h => .inl (loc_1 k o (h ▸ e) hn)) (fun h => .inr (h k o e))) (fun k o e => nomatch e)⟩
        · simp only [Dk.crash, hXl]; rfl
        · simp only [Dk.crash, hXl]; exact hrF
        · iterate 4 refine Below.setCell ?_ (by simp) _
          exact hB
      · have hki : ¬ (k : Int) < (waits.length : Int) := by omega
        go_wp2_with fail
        have KF : Kp (fun k => k = w.heap.size ∨ k = w.heap.size + 1) wr ((((wr.setCell ⟨w.heap.size + 1, 0, none⟩ (.slice a l.length c)).setCell ⟨w.heap.size + 1, 1, none⟩ (.slice none 0 0)).setCell ⟨w.heap.size + 1, 2, none⟩ (.int .i64 (-1))).setCell ⟨w.heap.size + 1, 3, none⟩ (.bool false)) :=
          ((((Kp.refl _ wr).setCell (x := ⟨w.heap.size + 1, 0, none⟩) (.inl (.inr rfl)) _).setCell (x := ⟨w.heap.size + 1, 1, none⟩) (.inl (.inr rfl)) _).setCell (x := ⟨w.heap.size + 1, 2, none⟩) (.inl (.inr rfl)) _).setCell (x := ⟨w.heap.size + 1, 3, none⟩) (.inl (.inr rfl)) _
        have hrF := KF.rd hr1 (fun b o e hn h => by
          have := hnf b o e hn
          rcases h with h | h <;> omega)
        refine bodyPost_ret (v := rdV a l.length c none 0 0 (-1) false) (by simp [results, Try.results32, go_sem, y0, y1, y2, y3, hz, rdV]) rfl ⟨_, rfl, ⟨a, c, none, 0, ?_, ?_, NB.Rd.nil_mk⟩, ?_, loc_of (fun k o e hn => hloc.elim (fun h => .inl (loc_1 k o (h ▸ e) hn)) (fun h => .inr (h k o e))) (fun k o e => nomatch e)⟩
        · simp only [Dk.crash, hXl]; rfl
        · simp only [Dk.crash, hXl]; exact hrF
        · iterate 4 refine Below.setCell ?_ (by simp) _
          exact hB
end Go.Proofs.Ytmgkaoenjnnlmaa
namespace Go.Proofs.Ytmgkaoenjnnlmaa
open Go.RowKit
open Go.NB (Rd Dk Kp Stp Off Dis)

theorem write_l (D : Dk) (i : Int) (b : List UInt8) : (D.write i b).1.l = D.l := by
  unfold Dk.write
  split
  · rfl
  split
  · rfl
  split <;> rfl
theorem rwriteR (w : World) (v : Value) (D : Dk) (i : Int) (bs : List UInt8) (h : RefD w v D) (hl : -1 ≤ D.left) (hl2 : D.left ≤ 9223372036854775807) (hw : D.waits.length ≤ 100000) (hbl : bs.length ≤ 1000000) :
    Calls Try.prog 31 #[v, .int .i64 i, strL bs] w (DidR w v (D.write i bs)) := by
  obtain ⟨a1, c1, a2, c2, rfl, h1, h2⟩ := h
  refine (rwrite_any w a1 _ c1 a2 _ c2 D i bs rfl h2 hl hl2 hw hbl).mono ?_
  rintro e w' ⟨a', c', rfl, hr, hb, hloc⟩
  have hwl := write_l D i bs
  refine ⟨_, rfl, ⟨a1, c1, a', c', by rw [hwl], by rw [hwl]; exact Rd.below h1 hb, hr⟩, hb, ?_⟩
  refine loc_of (fun k o e hn => .inl (loc_1 k o e hn)) (fun k o e hn => ?_)
  rcases hloc with h | h
  · exact .inl (loc_2 k o (h.1 ▸ e) (by have := h.2; omega))
  · exact .inr (h k o e)
theorem rstopR (w : World) (v : Value) (D : Dk) (x : Int) (h : RefD w v D) :
    Calls Try.prog 28 #[v, .int .i64 x] w (GaveR w v (D.stop x)) := by
  obtain ⟨a1, c1, a2, c2, rfl, h1, h2⟩ := h
  refine (rstop_any w a1 _ c1 a2 _ c2 D.left D.down x).mono ?_
  rintro e w' ⟨rfl, hb⟩
  exact ⟨_, rfl, ⟨a1, c1, a2, c2, rfl, Rd.below h1 hb, Rd.below h2 hb⟩, hb, fun k h => .inl (loc_same k h)⟩

set_option maxHeartbeats 1000000 in
theorem rnew_bad (w : World) (n : Int) (h : n < 1 ∨ 65536 < n) : Calls Try.prog 22 #[.int .i64 n] w fun e w' => e = .returned (.tuple #[rdV none 0 0 none 0 0 0 false, .int .i64 1]) ∧ Below w.heap.size w w' := by
  by_cases h1 : n < 1
  · go_enter Try.func22, Try.ntmps22
    go_wp2
    exact bodyPost_ret (v := .tuple #[rdV none 0 0 none 0 0 0 false, .int .i64 1]) (by simp [results, Try.results22, go_sem, rdV]) rfl ⟨rfl, oneB _ _⟩
  · have h2 : 65536 < n := by omega
    go_enter Try.func22, Try.ntmps22
    go_wp2
    exact bodyPost_ret (v := .tuple #[rdV none 0 0 none 0 0 0 false, .int .i64 1]) (by simp [results, Try.results22, go_sem, rdV]) rfl ⟨rfl, oneB _ _⟩

set_option maxRecDepth 100000 in
set_option maxHeartbeats 4000000 in
theorem rnew_any (w : World) (n : Nat) (h1 : 1 ≤ n) (h2 : n ≤ 65536) : Calls Try.prog 22 #[.int .i64 n] w (DidR w undef (Dk.fresh n, 0)) := by
  obtain ⟨Z, hZ⟩ : ∃ Z : List UInt8, List.replicate 64 0 = Z := ⟨_, rfl⟩
  have hno := rnoughts_any
  simp only [hZ] at hno
  have HNO := Go.Lib.hid hno
  have HZ := Go.Lib.hid hZ
  clear hno hZ
  have h1i : ¬ (n : Int) < 1 := by omega
  have h2i : ¬ 65536 < (n : Int) := by omega
  have T := two_rw w (.slice none 0 0) (.slice none 0 0) (.int .i64 0) (.bool false) (.slice none 0 0) (.slice none 0 0) (.int .i64 (-1)) (.bool false) 50 50
  go_enter Try.func22, Try.ntmps22
  go_wp2_with fail
  have B5 := twoB w (.cells #[.slice none 0 0, .slice none 0 0, .int .i64 0, .bool false] 50) (.cells #[.slice none 0 0, .slice none 0 0, .int .i64 (-1), .bool false] 50)
  generalize (w.alloc (.cells #[.slice none 0 0, .slice none 0 0, .int .i64 0, .bool false] 50)).alloc (.cells #[.slice none 0 0, .slice none 0 0, .int .i64 (-1), .bool false] 50) = w3 at *
  obtain ⟨R15, R25⟩ := T
  go_loopw [5] (fun x wr => ∃ (k : Nat) (v : Value), k ≤ n ∧ x = .int .i64 k ∧ Rw wr w.heap.size [.slice none 0 0, .slice none 0 0, .int .i64 0, .bool false] 50 ∧ Rw wr (w.heap.size + 1) [v, .slice none 0 0, .int .i64 (-1), .bool false] 50 ∧ wr.ownsRow (w.heap.size + 2) 9 1 v k (strsL (List.replicate k Z)) ∧ Below w.heap.size w wr) (fun x _ => n - (intOf x).toNat)
  case atStart => exact ⟨0, _, by omega, rfl, R15, R25, World.ownsRow_nil _ _ _ _, B5⟩
  case round =>
    clear R15 R25 B5
    obtain ⟨k, v, hk, rfl, R1, R2, ho, hB⟩ := hrel
    by_cases hlt : k < n
    · have hki : (k : Int) < (n : Int) := by omega
      go_wp2_with fail
      refine NB.wp_region_t [4, 6] (by kernel_rfl) ?_
      have R16 := R1.below (Below.refl _ wr).drew
      have R26 := R2.below (Below.refl _ wr).drew
      have B6 : Below w.heap.size w wr.drew := hB.drew
      have ho6 := (Kp.of_below (F := fun _ => False) (Below.refl _ wr).drew).own ho (fun _ _ h => h)
      clear R1 R2 hB ho
      generalize wr.drew = w6 at *
      have x0 := R26.cell 0 _ rfl
      refine NB.t_p 0 rfl (by kernel_rfl) (fun K hK => ?_); go_simp; refine hK _ ?_; clear hK K
      refine NB.t_r 1 [4, 5, 6] rfl (by kernel_rfl) (by kernel_rfl) rfl _ (fun w' hw' => NB.run_op_load rfl rfl Try.underlying32 rfl (x0) hw') (fun K hK => ?_); go_simp; refine hK _ ?_; clear hK K
      refine NB.t_e 2 rfl (by kernel_rfl) (by kernel_rfl) (fun K hK => ?_); unfold NB.tmoves; go_simp; refine (HNO.out _).mono ?_; rintro e w7 ⟨rfl, hb7⟩; refine ⟨_, rfl, hb7, hK _ _ ?_⟩; clear hK K
      have R17 := R16.below hb7
      have R27 := R26.below hb7
      have B7 := bel B6 hb7 B6.size
      have ho7 := (Kp.of_below (F := fun _ => False) hb7).own ho6 (fun _ _ h => h)
      unfold strL
      refine NB.t_e 3 rfl (by kernel_rfl) (by kernel_rfl) (fun K hK => ?_); unfold NB.tmoves; go_simp; refine ⟨(Below.refl _ _).alloc (Nat.le_refl _) _, hK _ _ ?_⟩; clear hK K
      have R18 := R17.below (oneB w7 (.cells #[.string ⟨Z.toArray⟩] 9))
      have R28 := R27.below (oneB w7 (.cells #[.string ⟨Z.toArray⟩] 9))
      have B8 := B7.alloc B7.size (.cells #[.string ⟨Z.toArray⟩] 9)
      have ho8 := (Kp.of_below (F := fun _ => False) (oneB w7 (.cells #[.string ⟨Z.toArray⟩] 9))).own ho7 (fun _ _ h => h)
      have hs8 := str_rd w7 Z rfl
      have hz8 : w.heap.size + 2 ≤ (w7.alloc (.cells #[.string ⟨Z.toArray⟩] 9)).heap.size := R28.lt
      refine NB.t_w 4 rfl (by kernel_rfl) (by kernel_rfl) rfl (fun Q' hK => ?_)
      refine NB.wpList_append_at rfl (.tmp 20) (.tmp 22) 32 rfl (w.heap.size + 2) slTS _ k (strsL (List.replicate k Z)) rfl ho8 _ 1 1 [strL Z] rfl hs8 (str_one _) (by omega) (by unfold maxLen; omega) hz8 ?_
      generalize w7.alloc (.cells #[.string ⟨Z.toArray⟩] 9) = w8 at *
      intro v9 w9 ho9 hg9 hv9
      obtain ⟨a9, c9, rfl, _, _, _⟩ := NB.rd_of_own ho9
      have K9 : Kp (fun k => v.ownBlock = some k) w8 w9 := (Kp.refl _ w8).grown hg9 (fun k hk => .inl hk)
      have R19 := R18.keep K9 (fun h => by have := (ho8.lt _ h).1; omega)
      have R29 := R28.keep K9 (fun h => by have := (ho8.lt _ h).1; omega)
      have B9 : Below w.heap.size w w9 := bel B8 (K9.belowB B8.size (fun k hk => by have := (ho8.lt _ hk).1; omega)) (Nat.le_refl _)
      go_wp2_with fail
      refine NB.t_p 5 rfl (by kernel_rfl) (fun K hK => ?_); go_simp; refine hK _ ?_; clear hK K
      refine NB.t_w 6 rfl (by kernel_rfl) (by kernel_rfl) rfl (fun Q' hK => ?_)
      have x0 := R29.cell 0 _ rfl
      have u0 := R29.free 0
      go_wp2_with fail
      refine NB.t_end (by kernel_rfl) ?_
      have KF : Kp (fun k => k = w.heap.size + 1) w9 (w9.setCell ⟨w.heap.size + 1, 0, none⟩ (.slice a9 (k + 1) c9)) := (Kp.refl (fun k => k = w.heap.size + 1) w9).setCell (x := ⟨w.heap.size + 1, 0, none⟩) (.inl rfl) _
      have hoF := KF.own ho9 (fun k hk h => by have := (ho9.lt _ hk).1; omega)
      have RF1 := R19.other (g' := w.heap.size + 1) (by omega) 0 (.slice a9 (k + 1) c9)
      have RF2 := R29.set 0 (.slice a9 (k + 1) c9)
      have BF : Below w.heap.size w (w9.setCell ⟨w.heap.size + 1, 0, none⟩ (.slice a9 (k + 1) c9)) := B9.setCell (p := ⟨w.heap.size + 1, 0, none⟩) (by simp) _
      have e1 : strsL (List.replicate k Z) ++ [strL Z] = strsL (List.replicate (k + 1) Z) := by
        rw [List.replicate_succ', strsL, strsL, List.map_append]; rfl
      rw [e1] at hoF
      go_wp2_with fail
      exact ⟨⟨k + 1, .slice a9 (k + 1) c9, by omega, by simp, RF1, RF2, hoF, BF⟩, by simp [intOf]; omega⟩
    · obtain rfl : k = n := by omega
      obtain ⟨a, c, rfl, hr1, hlo, _⟩ := NB.rd_of_own ho
      obtain ⟨x0, x1, x2, x3, u0, u1, u2, u3⟩ := rw4 R2
      obtain ⟨y0, y1, y2, y3, v0, v1, v2, v3⟩ := rw4 R1
      have hz := R1.lt
      go_wp2_with fail
      have KF : Kp (fun k => k = w.heap.size) wr ((((wr.setCell ⟨w.heap.size, 0, none⟩ (.slice a k c)).setCell ⟨w.heap.size, 1, none⟩ (.slice none 0 0)).setCell ⟨w.heap.size, 2, none⟩ (.int .i64 (-1))).setCell ⟨w.heap.size, 3, none⟩ (.bool false)) :=
        ((((Kp.refl (fun k => k = w.heap.size) wr).setCell (x := ⟨w.heap.size, 0, none⟩) (.inl rfl) _).setCell (x := ⟨w.heap.size, 1, none⟩) (.inl rfl) _).setCell (x := ⟨w.heap.size, 2, none⟩) (.inl rfl) _).setCell (x := ⟨w.heap.size, 3, none⟩) (.inl rfl) _
      have hrF := KF.rd hr1 (fun b o e hn h => by have := (hlo b o e).1; omega)
      refine bodyPost_ret (v := .tuple #[rdV a k c none 0 0 (-1) false, .int .i64 0]) (by simp [results, Try.results22, go_sem, y0, y1, y2, y3, hz, rdV]) rfl ⟨_, rfl, ⟨a, c, none, 0, ?_, ?_, NB.Rd.nil_mk⟩, ?_, loc_of (fun k o e _ => .inr (by have := (hlo k o e).1; omega)) (fun k o e => nomatch e)⟩
      · simp only [Dk.fresh, List.length_replicate]; rfl
      · simp only [Dk.fresh, List.length_replicate]; rw [HZ.out]; exact hrF
      · iterate 4 refine Below.setCell ?_ (by simp) _
        exact hB
end Go.Proofs.Ytmgkaoenjnnlmaa
namespace Go.Proofs.Ytmgkaoenjnnlmaa
open Go.RowKit
open Go.NB (Rd Dk Kp Stp Off Dis)

theorem read_len {D : Dk} (h64 : ∀ b ∈ D.l, b.length = 64) (hw : ∀ x ∈ D.waits, x.2.length = 64 ∧ x.1 < D.l.length) (i : Int) : (D.read i).1.length ≤ 64 := by
  unfold Dk.read
  split
  · simp
  · rename_i ha
    have ha : D.at_ i = 0 := by simpa using ha
    obtain ⟨h0, h1⟩ := NB.at_zero ha
    have hN : i.toNat < D.l.length := by omega
    have hb : (D.l.getD i.toNat []).length = 64 := by
      rw [List.getD_eq_getElem?_getD, List.getElem?_eq_getElem hN]; exact h64 _ (List.getElem_mem hN)
    have hsee : ∀ (ws : List (Nat × List UInt8)) (b : List UInt8), b.length = 64 → (∀ x ∈ ws, x.2.length = 64) → (Dk.see b ws i.toNat).length = 64 := by
      intro ws
      induction ws with
      | nil => intro b hb _; exact hb
      | cons x ws ih =>
        intro b hb hx
        refine ih _ ?_ (fun y hy => hx y (List.mem_cons_of_mem _ hy))
        show (if x.1 = i.toNat then x.2 else b).length = 64
        split
        · exact hx x List.mem_cons_self
        · exact hb
    exact Nat.le_of_eq (hsee D.waits _ hb (fun x hx => (hw x hx).1))
set_option maxRecDepth 100000 in
set_option maxHeartbeats 4000000 in
theorem alike_any (w : World) (base p : Nat) (F : Nat → Prop) (D : Dk) (v : Value) (hD : HasD w base p F D) (hR : RefD w v D) (hwn : D.waits.length ≤ 100000) :
    Calls Try.prog 33 #[.pointer (some ⟨p, 0, none⟩), v] w fun e w' => e = .returned (.bool true) ∧ Below w.heap.size w w' := by
  have hln : D.l.length ≤ 65536 := by
    obtain ⟨bl, vW, hd, _⟩ := hD
    exact hd.n
  obtain ⟨a1, c1, a2, c2, rfl, h1, h2⟩ := hR
  have hbd1 := h1.bound
  have hbd2 := h2.bound
  have hrl := read_len hD.l64 hD.w64
  have R1 := one_rw w (.slice a1 D.l.length c1) (.slice a2 D.waits.length c2) (.int .i64 D.left) (.bool D.down) 50
  have hdd : (D.down != D.down) = false := by simp
  unfold rdV
  go_enter Try.func33, Try.ntmps33
  go_wp2_with fail
  have B1 := oneB w (.cells #[.slice a1 D.l.length c1, .slice a2 D.waits.length c2, .int .i64 D.left, .bool D.down] 50)
  generalize w.alloc (.cells #[.slice a1 D.l.length c1, .slice a2 D.waits.length c2, .int .i64 D.left, .bool D.down] 50) = w1 at *
  refine NB.wp_region_m (by kernel_rfl) ?_
  have R2 := R1.below (Below.refl _ w1).drew
  have B2 : Below w.heap.size w w1.drew := B1.drew
  clear R1 B1
  generalize w1.drew = w2 at *
  have x0 := R2.cell 0 _ rfl
  have x1 := R2.cell 1 _ rfl
  have x3 := R2.cell 3 _ rfl
  have hD2 := hD.below B2
  refine NB.any_p 0 rfl (by kernel_rfl) (fun K hK => ?_); go_simp; refine hK _ ?_; clear hK K
  refine NB.any_p 2 rfl (by kernel_rfl) (fun K hK => ?_); go_simp; refine hK _ ?_; clear hK K
  refine NB.any_r 3 rfl (by kernel_rfl) rfl _ (fun w' hw' => NB.run_op_load rfl rfl Try.underlying32 rfl (x0) hw') (fun K hK => ?_); go_simp; refine hK _ ?_; clear hK K
  refine NB.any_p 4 rfl (by kernel_rfl) (fun K hK => ?_); go_simp; refine hK _ ?_; clear hK K
  refine NB.any_e 1 rfl (by kernel_rfl) (fun K hK => ?_); unfold NB.moves; go_simp; refine (dlen_any _ _ _ _ _ hD2).mono ?_; rintro e w' ⟨rfl, e2⟩; subst w'; refine ⟨_, rfl, Below.refl _ _, hK _ _ ?_⟩; clear hK K
  refine NB.any_p 5 rfl (by kernel_rfl) (fun K hK => ?_); go_simp; refine hK _ ?_; clear hK K
  refine NB.any_p 6 rfl (by kernel_rfl) (fun K hK => ?_); go_simp; refine hK _ ?_; clear hK K
  refine NB.any_p 7 rfl (by kernel_rfl) (fun K hK => ?_); go_simp; refine hK _ ?_; clear hK K
  refine NB.any_p 9 rfl (by kernel_rfl) (fun K hK => ?_); go_simp; refine hK _ ?_; clear hK K
  refine NB.any_r 10 rfl (by kernel_rfl) rfl _ (fun w' hw' => NB.run_op_load rfl rfl Try.underlying4 rfl (x3) hw') (fun K hK => ?_); go_simp; refine hK _ ?_; clear hK K
  refine NB.any_e 8 rfl (by kernel_rfl) (fun K hK => ?_); unfold NB.moves; go_simp; refine (ddown_any _ _ _ _ _ hD2).mono ?_; rintro e w' ⟨rfl, e2⟩; subst w'; refine ⟨_, rfl, Below.refl _ _, hK _ _ ?_⟩; clear hK K
  refine NB.any_p 11 rfl (by kernel_rfl) (fun K hK => ?_); go_simp; refine hK _ ?_; clear hK K
  refine NB.any_p 12 rfl (by kernel_rfl) (fun K hK => ?_); go_simp; refine hK _ ?_; clear hK K
  refine NB.any_p 13 rfl (by kernel_rfl) (fun K hK => ?_); go_simp; refine hK _ ?_; clear hK K
  refine NB.any_p 14 rfl (by kernel_rfl) (fun K hK => ?_); go_simp; refine hK _ ?_; clear hK K
  refine NB.any_p 16 rfl (by kernel_rfl) (fun K hK => ?_); go_simp; refine hK _ ?_; clear hK K
  refine NB.any_r 17 rfl (by kernel_rfl) rfl _ (fun w' hw' => NB.run_op_load rfl rfl Try.underlying48 rfl (x1) hw') (fun K hK => ?_); go_simp; refine hK _ ?_; clear hK K
  refine NB.any_p 18 rfl (by kernel_rfl) (fun K hK => ?_); go_simp; refine hK _ ?_; clear hK K
  refine NB.any_e 15 rfl (by kernel_rfl) (fun K hK => ?_); unfold NB.moves; go_simp; refine (dwaits_any _ _ _ _ _ hD2).mono ?_; rintro e w' ⟨rfl, e2⟩; subst w'; refine ⟨_, rfl, Below.refl _ _, hK _ _ ?_⟩; clear hK K
  refine NB.any_p 19 rfl (by kernel_rfl) (fun K hK => ?_); go_simp; refine hK _ ?_; clear hK K
  refine NB.any_p 20 rfl (by kernel_rfl) (fun K hK => ?_); go_simp; refine hK _ ?_; clear hK K
  refine NB.any_end (by kernel_rfl) ?_
  go_wp2_with fail
  go_loopw [5] (fun x wr => ∃ z : Int, -1 ≤ z ∧ z ≤ (D.l.length : Int) + 1 ∧ x = .int .i64 z ∧ Rw wr w.heap.size [.slice a1 D.l.length c1, .slice a2 D.waits.length c2, .int .i64 D.left, .bool D.down] 50 ∧ Below w.heap.size w wr) (fun x _ => ((D.l.length : Int) + 1 - intOf x).toNat)
  case atStart => exact ⟨-1, by omega, by omega, rfl, R2, B2⟩
  case round =>
    clear R2 B2 hD2 x0 x1 x3
    obtain ⟨z, hz0, hz1, rfl, R2, B2⟩ := hrel
    have x0 := R2.cell 0 _ rfl
    by_cases hlt : z ≤ (D.l.length : Int)
    · have hD2 := hD.below B2
      have hrz := hrl z
      obtain ⟨X, e, hr⟩ : ∃ X e, D.read z = (X, e) := ⟨_, _, rfl⟩
      rw [hr] at hrz
      have HRL := Go.Lib.hid hrl
      clear hrl
      simp only at hrz
      have hrr := fun w1 hb => rread_any w1 a1 D.l.length c1 a2 D.waits.length c2 D z (Rd.below h1 hb) (Rd.below h2 hb) hln hwn
      rw [hr] at hrr
      unfold rdV strL at hrr
      simp only at hrr
      have HRR := Go.Lib.hid hrr
      have HR := Go.Lib.hid hr
      clear hrr hr
      go_wp2_with (first
        | (go_at_call 59; refine (dread_any _ _ _ _ _ z hD2 (by omega)).mono ?_; rw [HR.out]; rintro e5 w5 ⟨a5, k5, rfl, ho5, hb5⟩; have hr5 := (Off.fresh (F := fun _ => False) ho5 (fun _ h => h.elim)).rd; have B5 := bel B2 hb5 B2.size; have R5 := R2.below hb5; clear x0; obtain ⟨x0, x1, x2, x3, _, _, _, _⟩ := rw4 R5)
        | (go_at_call 44; refine (HRR.out w5 B5).mono ?_; rintro e6 w6 ⟨rfl, hb6⟩; have hr6 := Rd.below hr5 hb6; have B6 := bel B5 hb6 B5.size; have R6 := R5.below hb6)
        | (refine NB.wpList_conv_str rfl 23 9 (.tmp 50) rfl Try.underlying23 Try.underlying5 Try.underlying9 a5 _ k5 X rfl hr6 ?_))
      exact ⟨⟨z + 1, by omega, by omega, by simp, R6, B6⟩, by simp only [intOf]; omega⟩
    · go_wp2_with fail
      go_ret
      exact ⟨rfl, B2⟩
end Go.Proofs.Ytmgkaoenjnnlmaa
