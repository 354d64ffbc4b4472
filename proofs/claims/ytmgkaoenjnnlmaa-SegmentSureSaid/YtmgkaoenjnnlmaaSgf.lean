/- How a segment lies in memory. Its small calls, walked. -/
import Derived.Test.YtmgkaoenjnnlmaaSge
import Derived.Test.YtmgkaoenjnnlmaaSlc
namespace Go.Proofs.Ytmgkaoenjnnlmaa
open Go.RowKit
open Go.NB (Rd Dk Kp Stp Off Dis val oneB dB Rw MapI KeyI I64)

/-- A record's slice. -/
structure Itm where
  a : Option Addr
  c : Nat
  b : List UInt8
def itV (l : List Itm) : List Value := l.map fun x => .slice x.a x.b.length x.c
def sgV (p : Nat) (v : Value) (S : Sg) : List Value := [.pointer (some ⟨p, 0, none⟩), .int .i64 (S.frm : Int), .int .i64 (S.n : Int), .int .u64 (S.epoch : Int), v, .int .i64 (S.used : Int), .int .i64 (S.sure : Int), .int .i64 (S.gone : Int), .int .i64 S.e]
theorem slTL : NB.SlT Try.prog 22 23 (.slice none 0 0) 1 24 := ⟨Try.underlying22, info_parts (by kernel_rfl), rfl, by omega⟩

structure IsSg (w : World) (base q p : Nat) (v : Value) (its : List Itm) (S : Sg) : Prop where
  row : Rw w q (sgV p v S) 83
  own : w.ownsRow base 23 1 v its.length (itV its)
  rd : ∀ x ∈ its, NB.RdB w x.a x.b.length x.c x.b
  lo : ∀ x ∈ its, ∀ b o, x.a = some ⟨b, o, none⟩ → x.b ≠ [] → base ≤ b ∧ b ≠ q ∧ v.ownBlock ≠ some b
  l : its.map (·.b) = S.l
  ge : base ≤ q
  qo : v.ownBlock ≠ some q
  frm : S.frm ≤ 65536
  n : S.n ≤ 65536
  used : S.used ≤ S.n
  len : S.l.length ≤ S.used
  epoch : S.epoch ≤ 4294967295
  sure : S.sure ≤ S.l.length
  gone : S.gone ≤ S.sure
def footS (q : Nat) (v : Value) (its : List Itm) (k : Nat) : Prop := k = q ∨ v.ownBlock = some k ∨ ∃ x ∈ its, x.b ≠ [] ∧ ∃ o, x.a = some ⟨k, o, none⟩
def HasSg (w : World) (base q p : Nat) (F : Nat → Prop) (S : Sg) : Prop := ∃ v its, IsSg w base q p v its S ∧ F = footS q v its

section
variable {w w' : World} {base q p : Nat} {v : Value} {its : List Itm} {S : Sg} {F : Nat → Prop}
theorem IsSg.foot (h : IsSg w base q p v its S) (k : Nat) (hk : footS q v its k) : base ≤ k ∧ k < w.heap.size := by
  rcases hk with rfl | hk | ⟨x, hx, hb, o, ha⟩
  · exact ⟨h.ge, h.row.lt⟩
  · exact h.own.lt k hk
  · exact ⟨(h.lo x hx k o ha hb).1, Rd.lt (h.rd x hx) k o ha (by intro e; rw [List.map_eq_nil_iff] at e; exact hb e)⟩
theorem HasSg.foot (h : HasSg w base q p F S) (k : Nat) (hk : F k) : base ≤ k ∧ k < w.heap.size := by
  obtain ⟨v, its, h, rfl⟩ := h; exact h.foot k hk
theorem IsSg.keep {G : Nat → Prop} (h : IsSg w base q p v its S) (hk : Kp G w w') (hG : Dis (footS q v its) G) : IsSg w' base q p v its S :=
  { h with
    row := h.row.keep hk (hG q (.inl rfl))
    own := hk.own h.own (fun k e => hG k (.inr (.inl e)))
    rd := fun x hx => hk.rdB (h.rd x hx) (fun b o e hb => hG b (.inr (.inr ⟨x, hx, hb, o, e⟩))) }
theorem HasSg.keep {G : Nat → Prop} (h : HasSg w base q p F S) (hk : Kp G w w') (hG : Dis F G) : HasSg w' base q p F S := by
  obtain ⟨v, its, h, rfl⟩ := h; exact ⟨v, its, h.keep hk hG, rfl⟩
theorem HasSg.below (h : HasSg w base q p F S) (hb : Below w.heap.size w w') : HasSg w' base q p F S := h.keep (G := fun _ => False) (Kp.of_below hb) (fun _ _ h => h)
theorem IsSg.below (h : IsSg w base q p v its S) (hb : Below w.heap.size w w') : IsSg w' base q p v its S := h.keep (G := fun _ => False) (Kp.of_below hb) (fun _ _ h => h)
theorem HasSg.base_le (h : HasSg w base q p F S) : base ≤ w.heap.size := by
  obtain ⟨v, its, h, rfl⟩ := h; have := h.ge; have := h.row.lt; omega
theorem HasSg.low {F' : Nat → Prop} (h : HasSg w base q p F S) (hs : Stp F F' w w') : Below base w w' := hs.low h.base_le (fun k hk => (h.foot k hk).1)
/-- One cell of the struct turns. -/
theorem IsSg.cellv (h : IsSg w base q p v its S) (j : Nat) (u : Value) (hu : (sgV p v S)[j]? = some u) : w.cell? ⟨q, j, none⟩ = some u := h.row.cell j u hu
theorem IsSg.free (h : IsSg w base q p v its S) (j : Nat) : w.frozen? ⟨q, j, none⟩ = false := h.row.free j
theorem IsSg.field (h : IsSg w base q p v its S) (j : Nat) (u : Value) (S' : Sg) (hr : (sgV p v S).set j u = sgV p v S') (hl : S'.l = S.l) (hf : S'.frm ≤ 65536) (hn : S'.n ≤ 65536) (hus : S'.used ≤ S'.n) (hln : S'.l.length ≤ S'.used) (he : S'.epoch ≤ 4294967295) (hsu : S'.sure ≤ S'.l.length) (hg : S'.gone ≤ S'.sure) :
    IsSg (w.setCell ⟨q, j, none⟩ u) base q p v its S' ∧ Kp (fun k => k = q) w (w.setCell ⟨q, j, none⟩ u) := by
  have hk : Kp (fun k => k = q) w (w.setCell ⟨q, j, none⟩ u) := (Kp.refl (fun k => k = q) w).setCell (x := ⟨q, j, none⟩) (.inl rfl) u
  refine ⟨{ row := by have := h.row.set j u; rwa [hr] at this, own := hk.own h.own (fun k e hkq => by subst hkq; exact h.qo e), rd := fun x hx => hk.rdB (h.rd x hx) (fun b o e hb hbq => (h.lo x hx b o e hb).2.1 hbq), lo := h.lo, l := by rw [hl]; exact h.l, ge := h.ge, qo := h.qo, frm := hf, n := hn, used := hus, len := hln, epoch := he, sure := hsu, gone := hg }, hk⟩
theorem IsSg.size (h : IsSg w base q p v its S) : its.length = S.l.length := by rw [← h.l, List.length_map]
/-- The slice of records. -/
theorem IsSg.slice (h : IsSg w base q p v its S) : ∃ a c, v = .slice a S.l.length c ∧ Rd 1 w a S.l.length c (itV its) := by
  obtain ⟨a, c, e, hr, _⟩ := NB.rd_of_own h.own
  rw [h.size] at e hr
  exact ⟨a, c, e, hr⟩
end

set_option maxHeartbeats 400000 in
theorem slen_nil (w : World) : Calls Try.prog 15 #[.pointer none] w fun e w' => e = .returned (.int .i64 0) ∧ w' = w := by
  go_enter Try.func15, Try.ntmps15
  go_wp2
  go_ret
  exact ⟨rfl, rfl⟩
set_option maxHeartbeats 400000 in
theorem slen_any (w : World) (base q p : Nat) (F : Nat → Prop) (S : Sg) (h : HasSg w base q p F S) : Calls Try.prog 15 #[.pointer (some ⟨q, 0, none⟩)] w fun e w' => e = .returned (.int .i64 (S.l.length : Int)) ∧ w' = w := by
  obtain ⟨v, its, h, rfl⟩ := h
  obtain ⟨a, c, rfl, _⟩ := h.slice
  have c4 := h.cellv 4 _ rfl
  go_enter Try.func15, Try.ntmps15
  go_wp2
  go_ret
  exact ⟨rfl, rfl⟩
set_option maxHeartbeats 400000 in
theorem ssure_nil (w : World) : Calls Try.prog 16 #[.pointer none] w fun e w' => e = .returned (.int .i64 0) ∧ w' = w := by
  go_enter Try.func16, Try.ntmps16
  go_wp2
  go_ret
  exact ⟨rfl, rfl⟩
set_option maxHeartbeats 400000 in
theorem ssure_any (w : World) (base q p : Nat) (F : Nat → Prop) (S : Sg) (h : HasSg w base q p F S) : Calls Try.prog 16 #[.pointer (some ⟨q, 0, none⟩)] w fun e w' => e = .returned (.int .i64 (S.sure : Int)) ∧ w' = w := by
  obtain ⟨v, its, h, rfl⟩ := h
  have c6 := h.cellv 6 _ rfl
  go_enter Try.func16, Try.ntmps16
  go_wp2
  go_ret
  exact ⟨rfl, rfl⟩
set_option maxHeartbeats 400000 in
theorem sfree_nil (w : World) : Calls Try.prog 18 #[.pointer none] w fun e w' => e = .returned (.int .i64 0) ∧ w' = w := by
  go_enter Try.func18, Try.ntmps18
  go_wp2
  go_ret
  exact ⟨rfl, rfl⟩
theorem i64_sub {a b : Nat} (ha : a ≤ 1000000) (hb : b ≤ 1000000) : IntKind.i64.wrap ((a : Int) - (b : Int)) = (a : Int) - (b : Int) := IntWalk.i64_in _ ⟨by omega, by omega⟩
theorem i64_add {a b : Nat} (ha : a ≤ 1000000) (hb : b ≤ 1000000) : IntKind.i64.wrap ((a : Int) + (b : Int)) = (a : Int) + (b : Int) := IntWalk.i64_in _ ⟨by omega, by omega⟩
set_option maxHeartbeats 400000 in
theorem sfree_any (w : World) (base q p : Nat) (F : Nat → Prop) (S : Sg) (h : HasSg w base q p F S) : Calls Try.prog 18 #[.pointer (some ⟨q, 0, none⟩)] w fun e w' => e = .returned (.int .i64 ((S.n : Int) - (S.used : Int))) ∧ Below w.heap.size w w' := by
  obtain ⟨v, its, h, rfl⟩ := h
  have c2 := h.cellv 2 _ rfl
  have c5 := h.cellv 5 _ rfl
  have hn := h.n
  have hu := h.used
  have hw := i64_sub (a := S.n) (b := S.used) (by omega) (by omega)
  clear hn hu
  go_enter Try.func18, Try.ntmps18
  go_wp2_with fail
  refine NB.wp_region_m (by kernel_rfl) ?_
  have c2' : w.drew.cell? ⟨q, 2, none⟩ = some (.int .i64 (S.n : Int)) := c2
  have c5' : w.drew.cell? ⟨q, 5, none⟩ = some (.int .i64 (S.used : Int)) := c5
  have hb := dB w
  generalize w.drew = v at *
  refine NB.any_p 0 rfl (by kernel_rfl) (fun K hK => ?_); go_simp; refine hK _ ?_; clear hK K
  refine NB.any_p 1 rfl (by kernel_rfl) (fun K hK => ?_); go_simp; refine hK _ ?_; clear hK K
  refine NB.any_p 2 rfl (by kernel_rfl) (fun K hK => ?_); go_simp; refine hK _ ?_; clear hK K
  refine NB.any_r 3 rfl (by kernel_rfl) rfl _ (fun w' hw' => NB.run_op_load rfl rfl Try.underlying3 rfl (c2') hw') (fun K hK => ?_); go_simp; refine hK _ ?_; clear hK K
  refine NB.any_p 4 rfl (by kernel_rfl) (fun K hK => ?_); go_simp; refine hK _ ?_; clear hK K
  refine NB.any_p 5 rfl (by kernel_rfl) (fun K hK => ?_); go_simp; refine hK _ ?_; clear hK K
  refine NB.any_p 6 rfl (by kernel_rfl) (fun K hK => ?_); go_simp; refine hK _ ?_; clear hK K
  refine NB.any_r 7 rfl (by kernel_rfl) rfl _ (fun w' hw' => NB.run_op_load rfl rfl Try.underlying3 rfl (c5') hw') (fun K hK => ?_); go_simp; refine hK _ ?_; clear hK K
  refine NB.any_p 8 rfl (by kernel_rfl) (fun K hK => ?_); go_simp; refine hK _ ?_; clear hK K
  refine NB.any_p 9 rfl (by kernel_rfl) (fun K hK => ?_); go_simp; refine hK _ ?_; clear hK K
  refine NB.any_end (by kernel_rfl) ?_
  go_wp2_with fail
  go_ret
  exact ⟨rfl, hb⟩

def ReadSg (w : World) (r : List UInt8 × Int) (e : Ending) (w' : World) : Prop :=
  ∃ a c, e = .returned (.tuple #[.slice a r.1.length c, .int .i64 r.2]) ∧ NB.OwnB w' w.heap.size 5 (.slice a r.1.length c) r.1 ∧ Below w.heap.size w w'
theorem readSg_err (w : World) (x : Int) : ReadSg w ([], x) (.returned (.tuple #[.slice none 0 0, .int .i64 x])) w :=
  ⟨none, 0, rfl, World.ownsRow_nil _ _ _ _, Below.refl _ _⟩
set_option maxHeartbeats 400000 in
theorem srd_nil (w : World) (k : Int) : Calls Try.prog 17 #[.pointer none, .int .i64 k] w fun e w' => e = .returned (.tuple #[.slice none 0 0, .int .i64 1]) ∧ w' = w := by
  go_enter Try.func17, Try.ntmps17
  go_wp2
  go_ret2
  exact ⟨rfl, rfl⟩
set_option maxHeartbeats 1000000 in
theorem srd_any (w : World) (base q p : Nat) (F : Nat → Prop) (S : Sg) (k : Int) (h : HasSg w base q p F S) (hb : ∀ b ∈ S.l, b.length ≤ 100000) :
    Calls Try.prog 17 #[.pointer (some ⟨q, 0, none⟩), .int .i64 k] w (ReadSg w (redM S k)) := by
  obtain ⟨v, its, h, rfl⟩ := h
  obtain ⟨a, c, rfl, hr⟩ := h.slice
  have c4 := h.cellv 4 _ rfl
  have c7 := h.cellv 7 _ rfl
  by_cases hk0 : k < 0
  · have hq : redM S k = ([], 15) := by unfold redM; rw [if_pos (.inl hk0)]
    rw [hq]
    go_enter Try.func17, Try.ntmps17
    go_wp2
    go_ret2
    exact readSg_err w 15
  by_cases hk1 : (S.l.length : Int) ≤ k
  · have hq : redM S k = ([], 15) := by unfold redM; rw [if_pos (.inr hk1)]
    rw [hq]
    go_enter Try.func17, Try.ntmps17
    go_wp2
    go_ret2
    exact readSg_err w 15
  by_cases hk2 : k < (S.gone : Int)
  · have hq : redM S k = ([], 35) := by unfold redM; rw [if_neg (by omega), if_pos hk2]
    rw [hq]
    go_enter Try.func17, Try.ntmps17
    go_wp2
    go_ret2
    exact readSg_err w 35
  · obtain ⟨j, rfl⟩ := Int.eq_ofNat_of_zero_le (show 0 ≤ k by omega)
    have hj : j < S.l.length := by omega
    have hji : (j : Int) < (S.l.length : Int) := by omega
    have hsz := h.size
    have hx : its[j]? = some (its[j]'(by omega)) := List.getElem?_eq_getElem (by omega)
    obtain ⟨x, hxe⟩ : ∃ x, its[j]'(by omega) = x := ⟨_, rfl⟩
    rw [hxe] at hx
    have hxm : x ∈ its := List.mem_of_getElem? hx
    have hq : redM S (j : Int) = (x.b, 0) := by
      unfold redM
      rw [if_neg (by omega), if_neg hk2, Int.toNat_natCast, ← h.l, List.getD_eq_getElem?_getD, List.getElem?_map, hx]
      rfl
    rw [hq]
    have hrx := h.rd x hxm
    have hbx := hb x.b (by rw [← h.l]; exact List.mem_map_of_mem hxm)
    obtain ⟨g, o, ha, hcl⟩ := hr.pos (by omega)
    have hcx : w.cell? ⟨g, o + j, none⟩ = some (.slice x.a x.b.length x.c) := hcl j _ (by rw [itV, List.getElem?_map, hx]; rfl)
    subst ha
    have ctc := clone_any w x.a x.b.length x.c x.b hrx (by omega)
    clear hr hcl hq hx hxe h
    go_enter Try.func17, Try.ntmps17
    go_wp2_with fail
    refine ctc.mono ?_
    rintro e w1 ⟨a1, c1, rfl, ho, hb1⟩
    go_wp2_with fail
    go_ret2
    exact ⟨a1, c1, rfl, ho, hb1⟩

set_option maxHeartbeats 400000 in
theorem strim_nil (w : World) (k : Int) : Calls Try.prog 21 #[.pointer none, .int .i64 k] w fun e w' => e = .returned (.int .i64 0) ∧ w' = w := by
  go_enter Try.func21, Try.ntmps21
  go_wp2
  go_ret
  exact ⟨rfl, rfl⟩
set_option maxHeartbeats 1000000 in
theorem strim_any (w : World) (base q p : Nat) (F : Nat → Prop) (S : Sg) (k : Int) (h : HasSg w base q p F S) :
    Calls Try.prog 21 #[.pointer (some ⟨q, 0, none⟩), .int .i64 k] w fun e w' => e = .returned (.int .i64 ((trmM S k).gone : Int)) ∧ HasSg w' base q p F (trmM S k) ∧ Stp F F w w' := by
  obtain ⟨v, its, h, rfl⟩ := h
  have c7 := h.cellv 7 _ rfl
  have c6 := h.cellv 6 _ rfl
  have f7 := h.free 7
  have hg : ((trmM S k).gone : Int) = max (S.gone : Int) (min k (S.sure : Int)) := by unfold trmM; simp only; omega
  have hgs := h.gone
  have hgl : (trmM S k).gone ≤ (trmM S k).sure := by show (trmM S k).gone ≤ S.sure; omega
  generalize hM : (trmM S k).gone = M at *
  have HM := Go.Lib.hid hM
  have hlt := h.row.lt
  have hd := h.below (dB w)
  clear h hM hgs
  by_cases h1 : k ≤ (S.sure : Int)
  case pos =>
    by_cases h2 : (S.gone : Int) < k
    case pos =>
      have hmm : k = (M : Int) := by omega
      have HMM := Go.Lib.hid hmm
      clear hg hmm
      go_enter Try.func21, Try.ntmps21
      go_wp2_with fail
      refine NB.wp_region_t [14] (by kernel_rfl) ?_
      have c7' : w.drew.cell? ⟨q, 7, none⟩ = some (.int .i64 (S.gone : Int)) := c7
      have c6' : w.drew.cell? ⟨q, 6, none⟩ = some (.int .i64 (S.sure : Int)) := c6
      have f7' : w.drew.frozen? ⟨q, 7, none⟩ = false := f7
      have hltv : q < w.drew.heap.size := hlt
      have hb := dB w
      clear c7 c6 f7 hlt
      generalize w.drew = u at *
      refine NB.t_p 0 rfl (by kernel_rfl) (fun K hK => ?_); go_simp; refine hK _ ?_; clear hK K
      refine NB.t_p 1 rfl (by kernel_rfl) (fun K hK => ?_); go_simp; refine hK _ ?_; clear hK K
      refine NB.t_p 2 rfl (by kernel_rfl) (fun K hK => ?_); go_simp; refine hK _ ?_; clear hK K
      refine NB.t_p 3 rfl (by kernel_rfl) (fun K hK => ?_); go_simp; refine hK _ ?_; clear hK K
      refine NB.t_r 4 [11, 12, 13, 14] rfl (by kernel_rfl) (by kernel_rfl) rfl _ (fun w' hw' => NB.run_op_load rfl rfl Try.underlying3 rfl (c7') hw') (fun K hK => ?_); go_simp; refine hK _ ?_; clear hK K
      refine NB.t_p 5 rfl (by kernel_rfl) (fun K hK => ?_); go_simp; refine hK _ ?_; clear hK K
      refine NB.t_p 6 rfl (by kernel_rfl) (fun K hK => ?_); go_simp; refine hK _ ?_; clear hK K
      refine NB.t_p 7 rfl (by kernel_rfl) (fun K hK => ?_); go_simp; refine hK _ ?_; clear hK K
      refine NB.t_p 8 rfl (by kernel_rfl) (fun K hK => ?_); go_simp; refine hK _ ?_; clear hK K
      refine NB.t_r 9 [10, 11, 12, 13, 14] rfl (by kernel_rfl) (by kernel_rfl) rfl _ (fun w' hw' => NB.run_op_load rfl rfl Try.underlying3 rfl (c6') hw') (fun K hK => ?_); go_simp; refine hK _ ?_; clear hK K
      refine NB.t_p 10 rfl (by kernel_rfl) (fun K hK => ?_); go_simp; refine hK _ ?_; clear hK K
      refine NB.t_p 11 rfl (by kernel_rfl) (fun K hK => ?_); go_simp; refine hK _ ?_; clear hK K
      refine NB.t_p 12 rfl (by kernel_rfl) (fun K hK => ?_); go_simp; refine hK _ ?_; clear hK K
      refine NB.t_p 13 rfl (by kernel_rfl) (fun K hK => ?_); go_simp; refine hK _ ?_; clear hK K
      refine NB.t_w 14 rfl (by kernel_rfl) (by kernel_rfl) rfl (fun Q' hK => ?_)
      have n7 := (hd.row.set 7 (.int .i64 (M : Int))).cell 7 _ rfl; go_wp2_with fail
      refine NB.t_end (by kernel_rfl) ?_
      obtain ⟨h', hk'⟩ := hd.field 7 (.int .i64 (M : Int)) (trmM S k) (by rw [← HM.out]; rfl) rfl hd.frm hd.n hd.used hd.len hd.epoch hd.sure (by rw [HM.out]; exact hgl)
      rw [HMM.out]
      go_wp2_with fail
      go_ret
      exact ⟨rfl, ⟨v, its, h', rfl⟩, Stp.of_kp (((Kp.of_below (F := footS q v its) hb).trans hk' (fun i hi => .inl (.inl hi))))⟩
    case neg =>
      have hmm : (S.gone : Int) = (M : Int) := by omega
      have HMM := Go.Lib.hid hmm
      clear hg hmm
      go_enter Try.func21, Try.ntmps21
      go_wp2_with fail
      refine NB.wp_region_t [14] (by kernel_rfl) ?_
      have c7' : w.drew.cell? ⟨q, 7, none⟩ = some (.int .i64 (S.gone : Int)) := c7
      have c6' : w.drew.cell? ⟨q, 6, none⟩ = some (.int .i64 (S.sure : Int)) := c6
      have f7' : w.drew.frozen? ⟨q, 7, none⟩ = false := f7
      have hltv : q < w.drew.heap.size := hlt
      have hb := dB w
      clear c7 c6 f7 hlt
      generalize w.drew = u at *
      refine NB.t_p 0 rfl (by kernel_rfl) (fun K hK => ?_); go_simp; refine hK _ ?_; clear hK K
      refine NB.t_p 1 rfl (by kernel_rfl) (fun K hK => ?_); go_simp; refine hK _ ?_; clear hK K
      refine NB.t_p 2 rfl (by kernel_rfl) (fun K hK => ?_); go_simp; refine hK _ ?_; clear hK K
      refine NB.t_p 3 rfl (by kernel_rfl) (fun K hK => ?_); go_simp; refine hK _ ?_; clear hK K
      refine NB.t_r 4 [11, 12, 13, 14] rfl (by kernel_rfl) (by kernel_rfl) rfl _ (fun w' hw' => NB.run_op_load rfl rfl Try.underlying3 rfl (c7') hw') (fun K hK => ?_); go_simp; refine hK _ ?_; clear hK K
      refine NB.t_p 5 rfl (by kernel_rfl) (fun K hK => ?_); go_simp; refine hK _ ?_; clear hK K
      refine NB.t_p 6 rfl (by kernel_rfl) (fun K hK => ?_); go_simp; refine hK _ ?_; clear hK K
      refine NB.t_p 7 rfl (by kernel_rfl) (fun K hK => ?_); go_simp; refine hK _ ?_; clear hK K
      refine NB.t_p 8 rfl (by kernel_rfl) (fun K hK => ?_); go_simp; refine hK _ ?_; clear hK K
      refine NB.t_r 9 [10, 11, 12, 13, 14] rfl (by kernel_rfl) (by kernel_rfl) rfl _ (fun w' hw' => NB.run_op_load rfl rfl Try.underlying3 rfl (c6') hw') (fun K hK => ?_); go_simp; refine hK _ ?_; clear hK K
      refine NB.t_p 10 rfl (by kernel_rfl) (fun K hK => ?_); go_simp; refine hK _ ?_; clear hK K
      refine NB.t_p 11 rfl (by kernel_rfl) (fun K hK => ?_); go_simp; refine hK _ ?_; clear hK K
      refine NB.t_p 12 rfl (by kernel_rfl) (fun K hK => ?_); go_simp; refine hK _ ?_; clear hK K
      refine NB.t_p 13 rfl (by kernel_rfl) (fun K hK => ?_); go_simp; refine hK _ ?_; clear hK K
      refine NB.t_w 14 rfl (by kernel_rfl) (by kernel_rfl) rfl (fun Q' hK => ?_)
      have n7 := (hd.row.set 7 (.int .i64 (M : Int))).cell 7 _ rfl; go_wp2_with fail
      refine NB.t_end (by kernel_rfl) ?_
      obtain ⟨h', hk'⟩ := hd.field 7 (.int .i64 (M : Int)) (trmM S k) (by rw [← HM.out]; rfl) rfl hd.frm hd.n hd.used hd.len hd.epoch hd.sure (by rw [HM.out]; exact hgl)
      rw [HMM.out]
      go_wp2_with fail
      go_ret
      exact ⟨rfl, ⟨v, its, h', rfl⟩, Stp.of_kp (((Kp.of_below (F := footS q v its) hb).trans hk' (fun i hi => .inl (.inl hi))))⟩
  case neg =>
    by_cases h2 : (S.gone : Int) < (S.sure : Int)
    case pos =>
      have hmm : (S.sure : Int) = (M : Int) := by omega
      have HMM := Go.Lib.hid hmm
      clear hg hmm
      go_enter Try.func21, Try.ntmps21
      go_wp2_with fail
      refine NB.wp_region_t [14] (by kernel_rfl) ?_
      have c7' : w.drew.cell? ⟨q, 7, none⟩ = some (.int .i64 (S.gone : Int)) := c7
      have c6' : w.drew.cell? ⟨q, 6, none⟩ = some (.int .i64 (S.sure : Int)) := c6
      have f7' : w.drew.frozen? ⟨q, 7, none⟩ = false := f7
      have hltv : q < w.drew.heap.size := hlt
      have hb := dB w
      clear c7 c6 f7 hlt
      generalize w.drew = u at *
      refine NB.t_p 0 rfl (by kernel_rfl) (fun K hK => ?_); go_simp; refine hK _ ?_; clear hK K
      refine NB.t_p 1 rfl (by kernel_rfl) (fun K hK => ?_); go_simp; refine hK _ ?_; clear hK K
      refine NB.t_p 2 rfl (by kernel_rfl) (fun K hK => ?_); go_simp; refine hK _ ?_; clear hK K
      refine NB.t_p 3 rfl (by kernel_rfl) (fun K hK => ?_); go_simp; refine hK _ ?_; clear hK K
      refine NB.t_r 4 [11, 12, 13, 14] rfl (by kernel_rfl) (by kernel_rfl) rfl _ (fun w' hw' => NB.run_op_load rfl rfl Try.underlying3 rfl (c7') hw') (fun K hK => ?_); go_simp; refine hK _ ?_; clear hK K
      refine NB.t_p 5 rfl (by kernel_rfl) (fun K hK => ?_); go_simp; refine hK _ ?_; clear hK K
      refine NB.t_p 6 rfl (by kernel_rfl) (fun K hK => ?_); go_simp; refine hK _ ?_; clear hK K
      refine NB.t_p 7 rfl (by kernel_rfl) (fun K hK => ?_); go_simp; refine hK _ ?_; clear hK K
      refine NB.t_p 8 rfl (by kernel_rfl) (fun K hK => ?_); go_simp; refine hK _ ?_; clear hK K
      refine NB.t_r 9 [10, 11, 12, 13, 14] rfl (by kernel_rfl) (by kernel_rfl) rfl _ (fun w' hw' => NB.run_op_load rfl rfl Try.underlying3 rfl (c6') hw') (fun K hK => ?_); go_simp; refine hK _ ?_; clear hK K
      refine NB.t_p 10 rfl (by kernel_rfl) (fun K hK => ?_); go_simp; refine hK _ ?_; clear hK K
      refine NB.t_p 11 rfl (by kernel_rfl) (fun K hK => ?_); go_simp; refine hK _ ?_; clear hK K
      refine NB.t_p 12 rfl (by kernel_rfl) (fun K hK => ?_); go_simp; refine hK _ ?_; clear hK K
      refine NB.t_p 13 rfl (by kernel_rfl) (fun K hK => ?_); go_simp; refine hK _ ?_; clear hK K
      refine NB.t_w 14 rfl (by kernel_rfl) (by kernel_rfl) rfl (fun Q' hK => ?_)
      have n7 := (hd.row.set 7 (.int .i64 (M : Int))).cell 7 _ rfl; go_wp2_with fail
      refine NB.t_end (by kernel_rfl) ?_
      obtain ⟨h', hk'⟩ := hd.field 7 (.int .i64 (M : Int)) (trmM S k) (by rw [← HM.out]; rfl) rfl hd.frm hd.n hd.used hd.len hd.epoch hd.sure (by rw [HM.out]; exact hgl)
      rw [HMM.out]
      go_wp2_with fail
      go_ret
      exact ⟨rfl, ⟨v, its, h', rfl⟩, Stp.of_kp (((Kp.of_below (F := footS q v its) hb).trans hk' (fun i hi => .inl (.inl hi))))⟩
    case neg =>
      have hmm : (S.gone : Int) = (M : Int) := by omega
      have HMM := Go.Lib.hid hmm
      clear hg hmm
      go_enter Try.func21, Try.ntmps21
      go_wp2_with fail
      refine NB.wp_region_t [14] (by kernel_rfl) ?_
      have c7' : w.drew.cell? ⟨q, 7, none⟩ = some (.int .i64 (S.gone : Int)) := c7
      have c6' : w.drew.cell? ⟨q, 6, none⟩ = some (.int .i64 (S.sure : Int)) := c6
      have f7' : w.drew.frozen? ⟨q, 7, none⟩ = false := f7
      have hltv : q < w.drew.heap.size := hlt
      have hb := dB w
      clear c7 c6 f7 hlt
      generalize w.drew = u at *
      refine NB.t_p 0 rfl (by kernel_rfl) (fun K hK => ?_); go_simp; refine hK _ ?_; clear hK K
      refine NB.t_p 1 rfl (by kernel_rfl) (fun K hK => ?_); go_simp; refine hK _ ?_; clear hK K
      refine NB.t_p 2 rfl (by kernel_rfl) (fun K hK => ?_); go_simp; refine hK _ ?_; clear hK K
      refine NB.t_p 3 rfl (by kernel_rfl) (fun K hK => ?_); go_simp; refine hK _ ?_; clear hK K
      refine NB.t_r 4 [11, 12, 13, 14] rfl (by kernel_rfl) (by kernel_rfl) rfl _ (fun w' hw' => NB.run_op_load rfl rfl Try.underlying3 rfl (c7') hw') (fun K hK => ?_); go_simp; refine hK _ ?_; clear hK K
      refine NB.t_p 5 rfl (by kernel_rfl) (fun K hK => ?_); go_simp; refine hK _ ?_; clear hK K
      refine NB.t_p 6 rfl (by kernel_rfl) (fun K hK => ?_); go_simp; refine hK _ ?_; clear hK K
      refine NB.t_p 7 rfl (by kernel_rfl) (fun K hK => ?_); go_simp; refine hK _ ?_; clear hK K
      refine NB.t_p 8 rfl (by kernel_rfl) (fun K hK => ?_); go_simp; refine hK _ ?_; clear hK K
      refine NB.t_r 9 [10, 11, 12, 13, 14] rfl (by kernel_rfl) (by kernel_rfl) rfl _ (fun w' hw' => NB.run_op_load rfl rfl Try.underlying3 rfl (c6') hw') (fun K hK => ?_); go_simp; refine hK _ ?_; clear hK K
      refine NB.t_p 10 rfl (by kernel_rfl) (fun K hK => ?_); go_simp; refine hK _ ?_; clear hK K
      refine NB.t_p 11 rfl (by kernel_rfl) (fun K hK => ?_); go_simp; refine hK _ ?_; clear hK K
      refine NB.t_p 12 rfl (by kernel_rfl) (fun K hK => ?_); go_simp; refine hK _ ?_; clear hK K
      refine NB.t_p 13 rfl (by kernel_rfl) (fun K hK => ?_); go_simp; refine hK _ ?_; clear hK K
      refine NB.t_w 14 rfl (by kernel_rfl) (by kernel_rfl) rfl (fun Q' hK => ?_)
      have n7 := (hd.row.set 7 (.int .i64 (M : Int))).cell 7 _ rfl; go_wp2_with fail
      refine NB.t_end (by kernel_rfl) ?_
      obtain ⟨h', hk'⟩ := hd.field 7 (.int .i64 (M : Int)) (trmM S k) (by rw [← HM.out]; rfl) rfl hd.frm hd.n hd.used hd.len hd.epoch hd.sure (by rw [HM.out]; exact hgl)
      rw [HMM.out]
      go_wp2_with fail
      go_ret
      exact ⟨rfl, ⟨v, its, h', rfl⟩, Stp.of_kp (((Kp.of_below (F := footS q v its) hb).trans hk' (fun i hi => .inl (.inl hi))))⟩
end Go.Proofs.Ytmgkaoenjnnlmaa
