/- Dedup's table, walked. -/
import Derived.Test.YthemdfcokphjeaaRows
import Derived.Test.YthemdfcokphjeaaDdm
import Derived.Test.YthemdfcokphjeaaNump
namespace Go.Proofs.Ythemdfcokphjeaa
open Go.RowKit
open Go.NB (Rd Kp Stp Off Dis Ent dknown dat dlast B64 MapIs KeyW kvw)

theorem kw : KeyW Try.prog 85 3 := by
  obtain ⟨n, hn⟩ : ∃ n, Try.prog.types.size = n + 1 := ⟨Try.prog.types.size - 1, by have : 0 < Try.prog.types.size := of_decide_eq_true (by kernel_rfl); omega⟩
  exact NB.keyW_mk (by kernel_rfl) hn (of_decide_eq_true (by kernel_rfl)) Try.underlying85 (by kernel_rfl) (by kernel_rfl) (by kernel_rfl) rfl rfl rfl rfl Try.underlying22 Try.underlying22 (by kernel_rfl) (by kernel_rfl) Try.underlying3 (fun _ => by kernel_rfl)

/-- A table: its struct's block, its map's block. -/
structure IsT (w : World) (base p b : Nat) (l : List Ent) : Prop where
  hp : w.heap[p]? = some (.cells #[.map (some b)] 83 (0, 0))
  mp : MapIs Try.prog 85 3 w b l
  bp : base ≤ p
  bb : base ≤ b
  ne : b ≠ p
def footT (p b k : Nat) : Prop := k = p ∨ k = b
def HasT (w : World) (base p : Nat) (F : Nat → Prop) (l : List Ent) : Prop := ∃ b, IsT w base p b l ∧ F = footT p b
section
variable {w w' : World} {base p b : Nat} {l : List Ent} {F : Nat → Prop}
theorem IsT.lt (h : IsT w base p b l) : p < w.heap.size := (Array.getElem?_eq_some_iff.1 h.hp).1
theorem IsT.cell (h : IsT w base p b l) : w.cell? ⟨p, 0, none⟩ = some (.map (some b)) := by rw [cell_of_row w p 0 _ _ (0, 0) h.hp]; rfl
theorem IsT.foot (h : IsT w base p b l) (k : Nat) (hk : footT p b k) : base ≤ k ∧ k < w.heap.size := by
  rcases hk with rfl | rfl
  · exact ⟨h.bp, h.lt⟩
  · exact ⟨h.bb, h.mp.lt⟩
theorem HasT.foot (h : HasT w base p F l) (k : Nat) (hk : F k) : base ≤ k ∧ k < w.heap.size := by
  obtain ⟨b, h, rfl⟩ := h
  exact h.foot k hk
theorem IsT.keep {G : Nat → Prop} (h : IsT w base p b l) (hk : Kp G w w') (hG : Dis (footT p b) G) : IsT w' base p b l :=
  { h with hp := (hk.block p h.lt (hG p (.inl rfl))).trans h.hp, mp := h.mp.keep (hk.block b h.mp.lt (hG b (.inr rfl))) }
theorem HasT.keep {G : Nat → Prop} (h : HasT w base p F l) (hk : Kp G w w') (hG : Dis F G) : HasT w' base p F l := by
  obtain ⟨b, h, rfl⟩ := h
  exact ⟨b, h.keep hk hG, rfl⟩
theorem IsT.below (h : IsT w base p b l) (hb : Below w.heap.size w w') : IsT w' base p b l := h.keep (G := fun _ => False) (Kp.of_below hb) (fun _ _ h => h)
theorem HasT.below (h : HasT w base p F l) (hb : Below w.heap.size w w') : HasT w' base p F l := h.keep (G := fun _ => False) (Kp.of_below hb) (fun _ _ h => h)
theorem HasT.low {F' : Nat → Prop} (h : HasT w base p F l) (hs : Stp F F' w w') : Below base w w' := by
  have hF := fun k hk => (h.foot k hk).1
  obtain ⟨b, h, rfl⟩ := h
  exact hs.low (by have := h.lt; have := h.bp; omega) hF
end

/-- A new one. -/
def NewT (w : World) (e : Ending) (w' : World) : Prop := ∃ p F, e = .returned (.pointer (some ⟨p, 0, none⟩)) ∧ HasT w' w.heap.size p F [] ∧ Below w.heap.size w w'
set_option maxHeartbeats 400000 in
theorem tnew_any (w : World) : Calls Try.prog 13 #[] w (NewT w) := by
  have hmm := @run_makeMap Try.prog
  go_enter Try.func13, Try.ntmps13
  go_wp2
  go_ret
  have hb := NB.mapIs_new (P := Try.prog) (K := 85) (E := 3) w [] rfl
  refine ⟨w.heap.size + 1, _, rfl, ⟨w.heap.size, ⟨?_, hb.keep ?_, by omega, by omega, by omega⟩, rfl⟩, ((Below.refl _ _).alloc (Nat.le_refl _) _).alloc (by simp) _⟩
  · have := heap_alloc_new (w.alloc (.map #[] 0)) (.cells #[.map (some w.heap.size)] 83 (0, 0))
    simpa using this
  · exact Below.heap_alloc _ _ _ (by simp)

def dnote (l : List Ent) (c s : Nat) (at_ : Int) : List Ent × Int := if at_ < 0 then (l, 1) else if dknown l c s then (l, 31) else (l ++ [(c, s, at_)], 0)
def NoteT (w : World) (base p : Nat) (F : Nat → Prop) (r : List Ent × Int) (e : Ending) (w' : World) : Prop := e = .returned (.int .i64 r.2) ∧ HasT w' base p F r.1 ∧ Stp F F w w'

set_option maxHeartbeats 400000 in
theorem note_nil (w : World) (x y z : Value) : Calls Try.prog 14 #[.pointer none, x, y, z] w fun e w' => e = .returned (.int .i64 1) ∧ w' = w := by
  go_enter Try.func14, Try.ntmps14
  go_wp2
  go_ret
  exact ⟨rfl, rfl⟩

set_option maxHeartbeats 400000 in
theorem note_any (w : World) (base p : Nat) (F : Nat → Prop) (l : List Ent) (c s : Nat) (at_ : Int) (h : HasT w base p F l) (hc : B64 c) (hs : B64 s) (hat : (Lit.int .i64 at_).wf = true) (hl : l.length ≤ 1000000) :
    Calls Try.prog 14 #[.pointer (some ⟨p, 0, none⟩), .int .u64 (c : Int), .int .u64 (s : Int), .int .i64 at_] w (NoteT w base p F (dnote l c s at_)) := by
  obtain ⟨b, h, rfl⟩ := h
  have c0 := h.cell
  by_cases h0 : at_ < 0
  · have hq : dnote l c s at_ = (l, 1) := by simp [dnote, h0]
    rw [hq]
    go_enter Try.func14, Try.ntmps14
    go_wp2
    go_ret
    exact ⟨rfl, ⟨b, h, rfl⟩, Stp.refl _ _⟩
  · have hA := h.below ((Below.refl _ w).alloc (Nat.le_refl _) (.cells #[.int .u64 (c : Int), .int .u64 (s : Int)] 85))
    have hrow := heap_alloc_new w (.cells #[.int .u64 (c : Int), .int .u64 (s : Int)] 85)
    have hSA : Kp (footT p b) w (w.alloc (.cells #[.int .u64 (c : Int), .int .u64 (s : Int)] 85)) := (Kp.refl _ _).alloc _
    have hszA : (w.alloc (.cells #[.int .u64 (c : Int), .int .u64 (s : Int)] 85)).heap.size = w.heap.size + 1 := by simp
    have hplt := h.lt
    have hblt := h.mp.lt
    clear h
    have hqq : dnote l c s at_ = if dknown l c s then (l, 31) else (l ++ [(c, s, at_)], 0) := by simp [dnote, h0]
    have HQ := Go.Lib.hid hqq; clear hqq
    generalize dnote l c s at_ = R at *
    go_enter Try.func14, Try.ntmps14
    go_wp2_with fail
    generalize w.alloc (.cells #[.int .u64 (c : Int), .int .u64 (s : Int)] 85) = wA at *
    refine NB.wp_region_t [] (by kernel_rfl) ?_
    have hA1 := hA.below (Below.refl _ wA).drew
    have hrow1 : wA.drew.heap[w.heap.size]? = some (.cells #[.int .u64 (c : Int), .int .u64 (s : Int)] 85 (0, 0)) := hrow
    have hS1 : Kp (footT p b) w wA.drew := hSA.drew
    have hsz1 : wA.drew.heap.size = w.heap.size + 1 := hszA
    clear hA hrow hSA hszA
    generalize wA.drew = w1 at *
    have e0 := hA1.cell
    refine NB.t_p 0 rfl (by kernel_rfl) (fun K hK => ?_); go_simp; refine hK _ ?_; clear hK K
    refine NB.t_p 1 rfl (by kernel_rfl) (fun K hK => ?_); go_simp; refine hK _ ?_; clear hK K
    refine NB.t_p 2 rfl (by kernel_rfl) (fun K hK => ?_); go_simp; refine hK _ ?_; clear hK K
    refine NB.t_r 3 [5, 6, 7, 8, 9, 10] rfl (by kernel_rfl) (by kernel_rfl) rfl _ (fun w' hw' => NB.run_op_load rfl rfl Try.underlying81 rfl e0 hw') (fun K hK => ?_); go_simp; refine hK _ ?_; clear hK K
    refine NB.t_r 4 [5, 6, 7, 8, 9, 10] rfl (by kernel_rfl) (by kernel_rfl) rfl _ (fun w' hw' => NB.run_op_load_agg rfl rfl Try.underlying85 rfl 85 _ (0, 0) hrow1 (m := 2) (by kernel_rfl) (by simp) _ rfl hw') (fun K hK => ?_); go_simp; refine hK _ ?_; clear hK K
    refine NB.t_r 5 [6, 7, 8, 9, 10] rfl (by kernel_rfl) (by kernel_rfl) rfl _ (fun w' hw' => NB.run_op_look kw Try.underlying81 rfl rfl (c := c) (s := s) rfl (hA1.mp.keep (hw'.block b hA1.mp.lt)) hc hs) (fun K hK => ?_); go_simp; refine hK _ ?_; clear hK K
    refine NB.t_p 6 rfl (by kernel_rfl) (fun K hK => ?_); go_simp; refine hK _ ?_; clear hK K
    refine NB.t_p 7 rfl (by kernel_rfl) (fun K hK => ?_); go_simp; refine hK _ ?_; clear hK K
    refine NB.t_p 8 rfl (by kernel_rfl) (fun K hK => ?_); go_simp; refine hK _ ?_; clear hK K
    refine NB.t_p 9 rfl (by kernel_rfl) (fun K hK => ?_); go_simp; refine hK _ ?_; clear hK K
    refine NB.t_p 10 rfl (by kernel_rfl) (fun K hK => ?_); go_simp; refine hK _ ?_; clear hK K
    refine NB.t_end (by kernel_rfl) ?_
    cases hk : dknown l c s with
    | true =>
      have hR : R = (l, 31) := by rw [HQ.out, hk]; rfl
      have HK := Go.Lib.hid hk; clear hk
      go_wp2_with fail
      go_ret
      rw [hR]
      exact ⟨rfl, ⟨b, hA1, rfl⟩, .of_kp hS1⟩
    | false =>
      have hR : R = (l ++ [(c, s, at_)], 0) := by rw [HQ.out, hk]; rfl
      have HK := Go.Lib.hid hk; clear hk
      go_wp2_with fail
      refine NB.wp_region_t [6] (by kernel_rfl) ?_
      have hA2 := hA1.below (Below.refl _ w1).drew
      have hrow2 : w1.drew.heap[w.heap.size]? = some (.cells #[.int .u64 (c : Int), .int .u64 (s : Int)] 85 (0, 0)) := hrow1
      have hS2 : Kp (footT p b) w w1.drew := hS1.drew
      clear hA1 hrow1 hS1 e0
      generalize w1.drew = w2 at *
      have e0 := hA2.cell
      refine NB.t_p 0 rfl (by kernel_rfl) (fun K hK => ?_); go_simp; refine hK _ ?_; clear hK K
      refine NB.t_p 1 rfl (by kernel_rfl) (fun K hK => ?_); go_simp; refine hK _ ?_; clear hK K
      refine NB.t_p 2 rfl (by kernel_rfl) (fun K hK => ?_); go_simp; refine hK _ ?_; clear hK K
      refine NB.t_r 3 [6] rfl (by kernel_rfl) (by kernel_rfl) rfl _ (fun w' hw' => NB.run_op_load rfl rfl Try.underlying81 rfl e0 hw') (fun K hK => ?_); go_simp; refine hK _ ?_; clear hK K
      refine NB.t_r 4 [6] rfl (by kernel_rfl) (by kernel_rfl) rfl _ (fun w' hw' => NB.run_op_load_agg rfl rfl Try.underlying85 rfl 85 _ (0, 0) hrow2 (m := 2) (by kernel_rfl) (by simp) _ rfl hw') (fun K hK => ?_); go_simp; refine hK _ ?_; clear hK K
      refine NB.t_p 5 rfl (by kernel_rfl) (fun K hK => ?_); go_simp; refine hK _ ?_; clear hK K
      refine NB.t_w 6 rfl (by kernel_rfl) (by kernel_rfl) rfl (fun Q' hK => ?_)
      refine NB.wpList_note kw rfl (.tmp 34) (.tmp 35) (.tmp 36) 81 rfl Try.underlying81 hA2.mp rfl (c := c) (s := s) rfl rfl hat hc hs HK.out (by unfold maxLen; omega) ?_
      intro w3 hm3 hg3 hs3
      refine hK _ _ ?_
      clear hK Q'
      have hA3 : IsT w3 _ p b (l ++ [(c, s, at_)]) := { hA2 with hp := (hg3.block p hA2.lt (fun e => hA2.ne (by cases e; rfl))).trans hA2.hp, mp := hm3 }
      have hS3 : Kp (footT p b) w w3 := hS2.grown hg3 (fun k e => .inl (.inr (by cases e; rfl)))
      refine NB.t_end (by kernel_rfl) ?_
      go_wp2_with fail
      go_ret
      rw [hR]
      exact ⟨rfl, ⟨b, hA3, rfl⟩, .of_kp hS3⟩

set_option maxHeartbeats 400000 in
theorem find_nil (w : World) (x y : Value) : Calls Try.prog 15 #[.pointer none, x, y] w fun e w' => e = .returned (.tuple #[.int .i64 0, .bool false]) ∧ w' = w := by
  go_enter Try.func15, Try.ntmps15
  go_wp2
  go_ret2
  exact ⟨rfl, rfl⟩

set_option maxHeartbeats 400000 in
theorem find_any (w : World) (base p : Nat) (F : Nat → Prop) (l : List Ent) (c s : Nat) (h : HasT w base p F l) (hc : B64 c) (hs : B64 s) :
    Calls Try.prog 15 #[.pointer (some ⟨p, 0, none⟩), .int .u64 (c : Int), .int .u64 (s : Int)] w fun e w' => e = .returned (.tuple #[.int .i64 (dat l c s), .bool (dknown l c s)]) ∧ w' = w := by
  obtain ⟨b, h, rfl⟩ := h
  have c0 := h.cell
  have hlook := NB.run_look kw Try.underlying81 h.mp hc hs
  unfold kvw at hlook
  go_enter Try.func15, Try.ntmps15
  go_wp2
  go_ret2
  exact ⟨rfl, rfl⟩

set_option maxHeartbeats 400000 in
theorem len_nil (w : World) : Calls Try.prog 16 #[.pointer none] w fun e w' => e = .returned (.int .i64 0) ∧ w' = w := by
  go_enter Try.func16, Try.ntmps16
  go_wp2
  go_ret
  exact ⟨rfl, rfl⟩

set_option maxHeartbeats 400000 in
theorem len_any (w : World) (base p : Nat) (F : Nat → Prop) (l : List Ent) (h : HasT w base p F l) :
    Calls Try.prog 16 #[.pointer (some ⟨p, 0, none⟩)] w fun e w' => e = .returned (.int .i64 (l.length : Int)) ∧ w' = w := by
  obtain ⟨b, h, rfl⟩ := h
  have c0 := h.cell
  have hlen := fun ty => NB.run_len (ty := ty) Try.underlying81 h.mp
  go_enter Try.func16, Try.ntmps16
  go_wp2
  go_ret
  exact ⟨rfl, rfl⟩
end Go.Proofs.Ythemdfcokphjeaa
