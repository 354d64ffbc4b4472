/- The disk's Write, walked. -/
import Derived.Test.YtmgkaoenjnnlmaaDska
import Derived.Test.YtmgkaoenjnnlmaaTail
import Derived.Test.YtmgkaoenjnnlmaaSlc
import Derived.Deep.RegionLaw
namespace Go.Proofs.Ytmgkaoenjnnlmaa
open Go.RowKit
open Go.NB (Rd Dk Kp footD)

theorem slTW : NB.SlT Try.prog 76 97 (.agg ((.int .i64 0 :: List.replicate 64 (.int .u8 0)).toArray)) 65 72 :=
  ⟨Try.underlying76, info_parts (by kernel_rfl), by kernel_rfl, by omega⟩

set_option maxHeartbeats 400000 in
theorem write_nil (w : World) (i : Int) (v : Value) : Calls Try.prog 30 #[.pointer none, .int .i64 i, v] w fun e w' => e = .returned (.int .i64 1) ∧ w' = w := by
  go_enter Try.func30, Try.ntmps30
  go_wp2_with (go_at_call 52; refine (at_nil _ _).mono ?_; rintro e w' ⟨rfl, rfl⟩)
  go_ret
  exact ⟨rfl, rfl⟩

/-- What a write leaves. -/
def WroteD (w : World) (base p bl : Nat) (vW : Value) (r : Dk × Int) (e : Ending) (w' : World) : Prop :=
  e = .returned (.int .i64 r.2) ∧ ∃ vW', IsD w' base p bl vW' r.1 ∧ Kp (footD p bl vW) w w' ∧ ∀ k, vW'.ownBlock = some k → vW.ownBlock = some k ∨ w.heap.size ≤ k

/-- A write's row of cells. -/
def zW (i : Int) : List Value := .int .i64 i :: List.replicate 64 (.int .u8 0)

theorem info_w {i : Int} : (Try.prog.info? 97).map (·.size) = some (zW i).toArray.size := by
  rw [show (zW i).toArray.size = 65 by simp [zW]]; kernel_rfl

theorem wpl_build_w {ops : Array Oper} {rest : List Oper} {o : Oper} {a : Act} {w : World} {Q : Exit → Act → World → Prop} (hg : o.guard = none) (x : Operand) (ho : o.op = .build 97 #[(0, x)]) (i : Int) (hx : a.eval x = .int .i64 i)
    (h : wpList Try.prog ops Q rest (a.put o.dst (.agg (zW i).toArray)) w) : wpList Try.prog ops Q (o :: rest) a w := by
  have hb : Try.prog.built 97 [(0, .int .i64 i)] = some (zW i).toArray := by kernel_rfl
  refine wpList_build hg 97 _ ho ?_ ?_
  · simp only [List.map_toArray, List.map_cons, List.map_nil, hx]
    rw [hb]; rfl
  · simp only [List.map_toArray, List.map_cons, List.map_nil, hx]
    rw [hb]; exact h

theorem zW_one (i : Int) : ∀ v ∈ (zW i).toArray.toList, v.oneCell' = true := by
  intro v hv
  simp only [zW, List.mem_cons, List.mem_replicate] at hv
  rcases hv with rfl | ⟨_, rfl⟩ <;> rfl
theorem zW_size (i : Int) : (zW i).toArray.size = 65 := by simp [zW]
theorem zW_len (i : Int) : (zW i).length = 65 := by simp [zW]
theorem zW_splice (i : Int) : NB.splice (zW 0).toArray 0 (zW i).toArray.toList = (zW i).toArray := NB.splice_all _ _ (by simp [zW])

/-- The row of a write. -/
def rW (i : Int) (b : List UInt8) : List Value := .int .i64 i :: b.map NB.u8v
theorem rW_splice (i : Int) (b : List UInt8) (h : b.length = 64) : splice (zW i) 1 (b.map NB.u8v) = rW i b := by
  simp [splice, zW, rW, h]
theorem rW_one (i : Int) (b : List UInt8) : ∀ v ∈ rW i b, v.oneCell' = true := by
  intro v hv
  rcases List.mem_cons.1 hv with rfl | hv
  · rfl
  · exact NB.u8v_one b v hv

theorem cp {w : World} {a : Option Addr} {n c : Nat} {b : List UInt8} (h : NB.RdB w a n c b) (hp : 0 < (b.map NB.u8v).length) : ∃ ad, a = some ad ∧ ∀ j v, (b.map NB.u8v)[j]? = some v → w.cell? (ad.add j) = some v := by
  have hs := NB.RdB.size h
  obtain ⟨g, o, rfl, hc⟩ := Rd.pos h (by rw [List.length_map] at hp; omega)
  exact ⟨_, rfl, fun j v hj => by rw [NB.addr_add]; exact hc j v hj⟩

theorem zero_w (w : World) : (zeroValue 97).run Try.prog w = .ok (.agg (zW 0).toArray) w := by
  have hi : (Try.prog.info? 97).bind (·.zero) = some (.agg (zW 0).toArray) := by kernel_rfl
  cases hq : Try.prog.info? 97 with
  | none => rw [hq] at hi; cases hi
  | some i =>
    rw [hq] at hi
    have hz : i.zero = some (.agg (zW 0).toArray) := hi
    simp [zeroValue, typeInfo, hq, hz]

set_option maxRecDepth 100000 in
set_option maxHeartbeats 1000000 in
theorem write_any (w : World) (base p bl : Nat) (vW : Value) (D : Dk) (i : Int) (a : Option Addr) (n c : Nat) (b : List UInt8) (h : IsD w base p bl vW D) (hb : NB.RdB w a n c b) (hF : ∀ k o, a = some ⟨k, o, none⟩ → b ≠ [] → ¬ footD p bl vW k) (hwn : D.waits.length ≤ 1000000) (hbase : base ≤ w.heap.size) :
    Calls Try.prog 30 #[.pointer (some ⟨p, 0, none⟩), .int .i64 i, .slice a n c] w (WroteD w base p bl vW (D.write i b)) := by
  obtain rfl : n = b.length := (NB.RdB.size hb).symm
  have hbd := Rd.bound hb
  by_cases h1 : D.at_ i = 0
  · by_cases h64 : b.length = 64
    · have hn64 : ((b.length : Int) != 64) = false := by simp [h64]
      by_cases h0 : D.left = 0
      · have hc : D.counts = ({ D with down := true }, 20) := by simp [Dk.counts, h0]
        have hq : D.write i b = ({ D with down := true }, 20) := by simp [Dk.write, h1, h64, h0]
        rw [hq]
        go_enter Try.func30, Try.ntmps30
        go_wp2_with (first
          | (go_at_call 52; refine (at_any _ _ _ _ _ _ _ h).mono ?_; rw [h1]; rintro e w' ⟨rfl, rfl⟩)
          | (go_at_call 53; refine (counts_any _ _ _ _ _ _ h).mono ?_; rw [hc]; rintro e w1 ⟨rfl, hd1, hk1⟩))
        go_ret
        exact ⟨rfl, vW, hd1, hk1, fun k hk => .inl hk⟩
      · have hc2 : D.counts.2 = 0 := by simp [Dk.counts, h0]
        have hC := h
        have kz := zero_w
        go_enter Try.func30, Try.ntmps30
        go_wp2_with (first
          | (go_at_call 52; refine (at_any _ _ _ _ _ _ _ h).mono ?_; rw [h1]; rintro e w' ⟨rfl, rfl⟩)
          | (go_at_call 53; refine (counts_any _ _ _ _ _ _ h).mono ?_; rw [hc2]; rintro e w1 ⟨rfl, hd1, hk1⟩)
          | (with_reducible refine wpl_build_w rfl (.tmp 24) rfl i rfl ?_)
          | (refine NB.wpList_store_agg_any rfl 97 (.tmp 9) (.tmp 25) rfl rfl w1.heap.size 0 (zW i).toArray rfl rfl 97 (zW 0).toArray (heap_alloc_new w1 _) info_w (by rw [zW_size, zW_size]; omega) (zW_one i) _ (zW_splice i) ?_; intro w2 hg2 hr2 hs2; have hk2 : Kp (footD p bl vW) w' w2 := (hk1.alloc _).grown hg2 (fun k hk => .inr (by cases hk; exact hk1.size)); have hb2 : NB.RdB w2 a 64 c b := by rw [← h64]; exact hk2.rdB hb hF)
          | (refine wpList_copy_splice rfl (.tmp 27) (.tmp 28) 23 23 rfl 5 Try.underlying23 (by kernel_rfl) (some ⟨w1.heap.size, 1, none⟩) a 64 64 64 c rfl rfl w1.heap.size 1 (zW i) 97 hr2 (b.map NB.u8v) (by simp [h64]) (fun hp => ⟨rfl, cp hb2 hp⟩) (by simp [zW, h64]) (NB.u8v_one b) w1.heap.size w2 (Below.refl _ _) (Nat.le_refl _) ?_; intro w3 hr3 hb3))
        have hc1 : D.counts.1 = { D with left := max (D.left - 1) (-1) } := by simp [Dk.counts, h0]
        rw [hc1] at hd1
        have B13 : Below w1.heap.size w1 w3 := ((((Below.refl w1.heap.size w1).alloc (Nat.le_refl _) _).grown hg2 (by simp) (by rintro k hk; cases hk; exact Nat.le_refl _))).trans hb3
        have B14 : Below w1.heap.size w1 w3.drew := ⟨B13.os, B13.tape, B13.output, B13.size, B13.block⟩
        have hr4 : w3.drew.heap[w1.heap.size]? = some (.cells (rW i b).toArray 97 (0, 0)) := by
          rw [← rW_splice i b h64]; exact hr3.out
        refine NB.wp_region_t [7, 10] (by kernel_rfl) ?_
        generalize w3.drew = w4 at *
        have hd4 := hd1.below B14
        have c1 := hd4.cell 1 vW rfl
        refine NB.t_p 0 rfl (by kernel_rfl) (fun K hK => ?_); go_simp; refine hK _ ?_; clear hK K
        refine NB.t_p 1 rfl (by kernel_rfl) (fun K hK => ?_); go_simp; refine hK _ ?_; clear hK K
        refine NB.t_p 2 rfl (by kernel_rfl) (fun K hK => ?_); go_simp; refine hK _ ?_; clear hK K
        refine NB.t_p 3 rfl (by kernel_rfl) (fun K hK => ?_); go_simp; refine hK _ ?_; clear hK K
        refine NB.t_r 4 [7, 8, 9, 10] rfl (by kernel_rfl) (by kernel_rfl) rfl _ (fun w' hw' => NB.run_op_load rfl rfl Try.underlying76 rfl c1 hw') (fun K hK => ?_); go_simp; refine hK _ ?_; clear hK K
        refine NB.t_r 5 [6, 7, 8, 9, 10] rfl (by kernel_rfl) (by kernel_rfl) rfl _ (fun w' hw' => NB.run_op_load_agg rfl rfl Try.underlying97 rfl 97 (rW i b).toArray (0, 0) hr4 (m := 65) (by kernel_rfl) (by simp [rW, h64]) (rW i b).toArray (NB.ext_all _ _ (by simp [rW, h64])) hw') (fun K hK => ?_); go_simp; refine hK _ ?_; clear hK K
        refine NB.t_m 6 rfl (by kernel_rfl) (by kernel_rfl) rfl (fun K hK => ?_)
        refine NB.tmoves_build_one slTW (by omega) rfl (rW i b).toArray rfl (by simp [rW, h64]) (hK _ _ ?_); clear hK K
        refine NB.t_w 7 rfl (by kernel_rfl) (by kernel_rfl) rfl (fun Q' hK => ?_)
        have hd5 := hd4.below ((Below.refl _ w4).alloc (Nat.le_refl _) (.cells (rW i b).toArray 97))
        refine NB.wpList_append_at rfl (.tmp 34) (.tmp 36) 76 rfl base slTW vW D.waits.length (NB.flatW D.waits) rfl hd5.hw (some ⟨w4.heap.size, 0, none⟩) 1 1 (rW i b) rfl ?_ (rW_one i b) (by omega) (by unfold maxLen; omega) ?_ ?_
        · exact NB.rd_new w4 (rW i b).toArray 97 1 (by simp [rW, h64]) (by unfold maxLen; omega) rfl
        · have := hk1.size; have := B14.size; simp; omega
        intro v' w5 ho5 hg5 hv5
        refine hK _ _ ?_
        clear hK Q'
        go_simp
        refine NB.t_p 8 rfl (by kernel_rfl) (fun K hK => ?_); go_simp; refine hK _ ?_; clear hK K
        refine NB.t_p 9 rfl (by kernel_rfl) (fun K hK => ?_); go_simp; refine hK _ ?_; clear hK K
        have hq : D.write i b = ({ D with left := max (D.left - 1) (-1), waits := D.waits ++ [(i.toNat, b)] }, 0) := by simp [Dk.write, h1, h64, h0]
        have hn := hd5.wrote hg5 i b (NB.at_zero h1) h64 ho5 hv5
        have hp5 := (hg5.block p hd5.lt.1 (fun e => (hd5.neW p e.symm).1 rfl)).trans hd5.hp
        have c5 : w5.cell? ⟨p, 1, none⟩ = some vW := by rw [cell_of_row _ _ _ _ _ _ hp5]; rfl
        have f5 : w5.frozen? ⟨p, 1, none⟩ = false := frozen_of_row _ _ _ _ _ hp5
        clear hp5
        have hk6 : Kp (footD p bl vW) w' (w5.setCell ⟨p, 1, none⟩ v') := by
          refine Kp.setCell (Kp.grown ((hk1.trans_below B14 hk1.size).alloc _) hg5 (fun k hk => .inl (.inr (.inr hk)))) (.inl (.inl rfl)) v'
        have hv6 : ∀ k, v'.ownBlock = some k → vW.ownBlock = some k ∨ w'.heap.size ≤ k := fun k hk => by
          rcases hv5 k hk with h7 | h7
          · exact .inl h7
          · have := hk1.size; have := B14.size; simp at h7; exact .inr (by omega)
        obtain ⟨a', c', e', _⟩ := NB.rd_of_own ho5
        subst e'
        refine NB.t_w 10 rfl (by kernel_rfl) (by kernel_rfl) rfl (fun Q' hK => ?_)
        go_wp2
        refine NB.t_end (by kernel_rfl) ?_
        go_wp2
        go_ret
        rw [hq]
        exact ⟨rfl, _, hn, hk6, hv6⟩
    · have hn64 : ((b.length : Int) != 64) = true := by simp; omega
      have hq : D.write i b = (D, 1) := by simp [Dk.write, h1, h64]
      rw [hq]
      go_enter Try.func30, Try.ntmps30
      go_wp2_with (first
        | (go_at_call 52; refine (at_any _ _ _ _ _ _ _ h).mono ?_; rw [h1]; rintro e w' ⟨rfl, rfl⟩))
      go_ret
      exact ⟨rfl, vW, h, Kp.refl _ _, fun k hk => .inl hk⟩
  · have hq : D.write i b = (D, D.at_ i) := by simp [Dk.write, h1]
    have hne : (D.at_ i != 0) = true := by simp [h1]
    rw [hq]
    go_enter Try.func30, Try.ntmps30
    go_wp2_with (first
      | (go_at_call 52; refine (at_any _ _ _ _ _ _ _ h).mono ?_; rintro e w' ⟨rfl, rfl⟩))
    go_ret
    exact ⟨rfl, vW, h, Kp.refl _ _, fun k hk => .inl hk⟩
end Go.Proofs.Ytmgkaoenjnnlmaa
