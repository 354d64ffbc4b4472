/- Is a block of a cell whole? Walked. -/
import Derived.Test.YtcdapjfaekamkaaCela
import Derived.Stop.BytesEq
namespace Go.NB
open Go Go.RowKit

/-- Bytes loaded as an array, in whatever later world. -/
theorem run_op_load_cells {P : Program} {o : Oper} {ty : TypeId} {x : Operand} (ho : o.op = .load ty x) {a : Act} {g off : Nat} (hx : a.eval x = .pointer (some ⟨g, off, none⟩)) {d : TypeDesc} (hu : P.underlying ty = some d)
    (hd : (match d with | .struct _ | .array _ _ => true | _ => false) = true) {w w' : World} (vs : List Value) (hc : ∀ j v, vs[j]? = some v → w.cell? ⟨g, off + j, none⟩ = some v) (hi : (P.info? ty).map (·.size) = some vs.length) (hb : Below w.heap.size w w') :
    (execOp a.eval o).run P w' = .ok (.value (.agg vs.toArray)) w' := by
  have hl : (loadCells ⟨g, off, none⟩ vs.length).run P w' = .ok vs.toArray w' :=
    run_loadCells_list (P := P) w' ⟨g, off, none⟩ _ (fun j v hv => by
      have h1 := hc j v hv
      rw [addr_add]
      exact (hb.cell (World.block_lt_of_cell? w _ h1)).trans h1)
  have hrun : (loadVar ty ⟨g, off, none⟩).run P w' = .ok (.agg vs.toArray) w' := by
    cases hq : P.info? ty with
    | none => simp [hq] at hi
    | some i =>
      have hs : i.size = vs.length := by simpa [hq] using hi
      have hagg : (isAgg ty).run P w' = .ok true w' := by
        unfold isAgg
        rw [Sem.run_bind, run_underlying hu w']
        cases d <;> simp_all
      simp [loadVar, Sem.run_bind, hagg, sizeOf, typeInfo, hq, hs, hl]
  unfold execOp
  simp only [ho, hx, Instr.loadAt, Instr.sureAddr, Sem.run_bind, Sem.run_pure, Result.andThen_ok, hrun]

theorem run_arrayAt {P : Program} {t e : TypeId} {n : Nat} (ht : P.underlying t = some (.array n e)) (a : Option Addr) (l c : Nat) (h : n ≤ l) (w : World) : (Instr.arrayAt t (.slice a l c)).run P w = .ok (.pointer a) w := by
  unfold Instr.arrayAt
  simp only [Sem.run_bind, run_underlying ht, Result.andThen_ok]
  simp [Nat.not_lt.2 h]
end Go.NB
namespace Go.Proofs.Ytcdapjfaekamkaa
open Go.RowKit
open Go.NB (Rd Dk Kp Stp Off Dis val)

/-- Was a block written to its end, as it was? -/
def wholeL (l : List UInt8) : Bool := (l.take 8 == l.drop 56) && rightL (l.take 56) && decide ((l.getD 8 0).toNat ≤ 43) && decide (0 < num8 l)

set_option maxRecDepth 100000 in
set_option maxHeartbeats 2000000 in
theorem whole_any (w : World) (a : Option Addr) (c : Nat) (l : List UInt8) (h : NB.RdB w a 64 c l) :
    Calls Try.prog 30 #[.slice a 64 c] w fun e w' => e = .returned (.bool (wholeL l)) ∧ Below w.heap.size w w' := by
  have hle := h.le
  have hsz := NB.RdB.size h
  have hbd := Rd.bound h
  obtain ⟨b3, o3, ha, hc3⟩ := NB.Rd.pos h (by omega)
  subst ha
  have h56 : ¬ c = 56 := by omega
  have hcc : 56 ≤ c := by omega
  have hc1 : ∀ j v, ((l.take 8).map NB.u8v)[j]? = some v → w.cell? ⟨b3, o3 + j, none⟩ = some v := fun j v hv => hc3 j v (by
    rw [List.getElem?_map, List.getElem?_take] at hv
    rw [List.getElem?_map]
    split at hv
    · exact hv
    · cases hv)
  have hc2 : ∀ j v, ((l.drop 56).map NB.u8v)[j]? = some v → w.cell? ⟨b3, o3 + 56 + j, none⟩ = some v := fun j v hv => by
    rw [Nat.add_assoc]
    exact hc3 _ v (by rw [List.getElem?_map, List.getElem?_drop] at hv; rw [List.getElem?_map]; exact hv)
  have hl1 : (l.take 8).length = 8 := by rw [List.length_take]; omega
  have hl2 : (l.drop 56).length = 8 := by rw [List.length_drop]; omega
  have HW := Go.Lib.hid (show wholeL l = ((l.take 8 == l.drop 56) && rightL (l.take 56) && decide ((l.getD 8 0).toNat ≤ 43) && decide (0 < num8 l)) from rfl)
  have hn8 := number_any
  generalize wholeL l = W at *
  have hA := fun (a : Option Addr) (l c : Nat) (h : 8 ≤ l) w => NB.run_arrayAt (P := Try.prog) (t := 96) (e := 5) (n := 8) (by kernel_rfl) a l c h w
  go_enter Try.func30, Try.ntmps30
  go_wp2_with fail
  refine NB.wp_region_m (by kernel_rfl) ?_
  have hB := (Below.refl w.heap.size w).drew
  have hv := h.below (Below.refl _ w).drew
  have e1 := hA (some ⟨b3, o3, none⟩) 64 c (by omega)
  have e2 := hA (some ⟨b3, o3 + 56, none⟩) 8 (c - 56) (by omega)
  have hEG : Try.prog.eqGuardType Try.prog.depth 96 = false := by kernel_rfl
  have hsz8 : ∀ w, (sizeOf 5).run Try.prog w = .ok 1 w := fun w => by kernel_rfl
  have hE := fun w => run_eql_bytes (P := Try.prog) w 96 5 8 (by kernel_rfl) (by kernel_rfl) hsz8 (l.take 8) (l.drop 56) hl1 hl2
  have hE' : ∀ w, (Go.binOp .eql 96 (.agg ((l.take 8).map NB.u8v).toArray) (.agg ((l.drop 56).map NB.u8v).toArray)).run Try.prog w = .ok (.bool (l.take 8 == l.drop 56)) w := hE
  have hxl : ((l.take 8).map NB.u8v).length = 8 := by simpa using hl1
  have hyl : ((l.drop 56).map NB.u8v).length = 8 := by rw [List.length_map]; exact hl2
  have q8 : w.cell? ⟨b3, o3 + 8, none⟩ = some (.int .u8 ((l.getD 8 0).toNat : Int)) := hc3 8 (NB.u8v (l.getD 8 0)) (by simp [List.getD, show 8 < l.length by omega])
  have hci : (56 : Int) ≤ (c : Int) := by omega
  have h8i : (8 : Int) < 64 := by omega
  have hbv := Below.refl w.drew.heap.size w.drew
  have HN := Go.Lib.hid hn8
  clear hE hn8 hc3
  generalize (l.take 8).map NB.u8v = xs at *
  generalize (l.drop 56).map NB.u8v = ys at *
  generalize hAe : (l.take 8 == l.drop 56) = A at *
  have HAE := Go.Lib.hid hAe; clear hAe
  have hc1v : ∀ j v, xs[j]? = some v → w.drew.cell? ⟨b3, o3 + j, none⟩ = some v := hc1
  have hc2v : ∀ j v, ys[j]? = some v → w.drew.cell? ⟨b3, o3 + 56 + j, none⟩ = some v := hc2
  have q8v : w.drew.cell? ⟨b3, o3 + 8, none⟩ = some (.int .u8 ((l.getD 8 0).toNat : Int)) := q8
  clear hc1 hc2 q8 h
  generalize hye : l.getD 8 0 = y at *
  have HY := Go.Lib.hid hye; clear hye
  generalize w.drew = v at *
  cases A with
  | false =>
    refine NB.any_p 0 rfl (by kernel_rfl) (fun K hK => ?_); go_simp; refine hK _ ?_; clear hK K
    refine NB.any_p 1 rfl (by kernel_rfl) (fun K hK => ?_); go_simp; refine hK _ ?_; clear hK K
    refine NB.any_r 2 rfl (by kernel_rfl) rfl _ (fun w' hw' => NB.run_op_load_cells rfl rfl Try.underlying96 rfl xs hc1v (by rw [hxl]; kernel_rfl) hw') (fun K hK => ?_); go_simp; refine hK _ ?_; clear hK K
    refine NB.any_p 3 rfl (by kernel_rfl) (fun K hK => ?_); go_simp; refine hK _ ?_; clear hK K
    refine NB.any_p 4 rfl (by kernel_rfl) (fun K hK => ?_); go_simp; refine hK _ ?_; clear hK K
    refine NB.any_p 5 rfl (by kernel_rfl) (fun K hK => ?_); go_simp; refine hK _ ?_; clear hK K
    refine NB.any_r 6 rfl (by kernel_rfl) rfl _ (fun w' hw' => NB.run_op_load_cells rfl rfl Try.underlying96 rfl ys hc2v (by rw [hyl]; kernel_rfl) hw') (fun K hK => ?_); go_simp; refine hK _ ?_; clear hK K
    refine NB.any_p 7 rfl (by kernel_rfl) (fun K hK => ?_); go_simp; refine hK _ ?_; clear hK K
    refine NB.any_p 8 rfl (by kernel_rfl) (fun K hK => ?_); go_simp; refine hK _ ?_; clear hK K
    refine NB.any_p 9 rfl (by kernel_rfl) (fun K hK => ?_); go_simp; refine hK _ ?_; clear hK K
    refine NB.any_p 10 rfl (by kernel_rfl) (fun K hK => ?_); go_simp; refine hK _ ?_; clear hK K
    refine NB.any_e 11 rfl (by kernel_rfl) (fun K hK => ?_); go_simp; refine hK _ _ ?_; clear hK K
    refine NB.any_p 12 rfl (by kernel_rfl) (fun K hK => ?_); go_simp; refine hK _ ?_; clear hK K
    refine NB.any_p 13 rfl (by kernel_rfl) (fun K hK => ?_); go_simp; refine hK _ ?_; clear hK K
    refine NB.any_p 14 rfl (by kernel_rfl) (fun K hK => ?_); go_simp; refine hK _ ?_; clear hK K
    refine NB.any_p 15 rfl (by kernel_rfl) (fun K hK => ?_); go_simp; refine hK _ ?_; clear hK K
    refine NB.any_e 16 rfl (by kernel_rfl) (fun K hK => ?_); go_simp; refine hK _ _ ?_; clear hK K
    refine NB.any_p 17 rfl (by kernel_rfl) (fun K hK => ?_); go_simp; refine hK _ ?_; clear hK K
    refine NB.any_p 18 rfl (by kernel_rfl) (fun K hK => ?_); go_simp; refine hK _ ?_; clear hK K
    refine NB.any_p 19 rfl (by kernel_rfl) (fun K hK => ?_); go_simp; refine hK _ ?_; clear hK K
    refine NB.any_p 20 rfl (by kernel_rfl) (fun K hK => ?_); go_simp; refine hK _ ?_; clear hK K
    refine NB.any_e 21 rfl (by kernel_rfl) (fun K hK => ?_); go_simp; refine hK _ _ ?_; clear hK K
    refine NB.any_p 22 rfl (by kernel_rfl) (fun K hK => ?_); go_simp; refine hK _ ?_; clear hK K
    refine NB.any_p 23 rfl (by kernel_rfl) (fun K hK => ?_); go_simp; refine hK _ ?_; clear hK K
    refine NB.any_p 24 rfl (by kernel_rfl) (fun K hK => ?_); go_simp; refine hK _ ?_; clear hK K
    refine NB.any_end (by kernel_rfl) ?_
    go_wp2_with fail
    go_ret
    exact ⟨by rw [HW.out]; rfl, hB⟩
  | true =>
    cases hR : rightL (l.take 56) with
    | false =>
      refine NB.any_p 0 rfl (by kernel_rfl) (fun K hK => ?_); go_simp; refine hK _ ?_; clear hK K
      refine NB.any_p 1 rfl (by kernel_rfl) (fun K hK => ?_); go_simp; refine hK _ ?_; clear hK K
      refine NB.any_r 2 rfl (by kernel_rfl) rfl _ (fun w' hw' => NB.run_op_load_cells rfl rfl Try.underlying96 rfl xs hc1v (by rw [hxl]; kernel_rfl) hw') (fun K hK => ?_); go_simp; refine hK _ ?_; clear hK K
      refine NB.any_p 3 rfl (by kernel_rfl) (fun K hK => ?_); go_simp; refine hK _ ?_; clear hK K
      refine NB.any_p 4 rfl (by kernel_rfl) (fun K hK => ?_); go_simp; refine hK _ ?_; clear hK K
      refine NB.any_p 5 rfl (by kernel_rfl) (fun K hK => ?_); go_simp; refine hK _ ?_; clear hK K
      refine NB.any_r 6 rfl (by kernel_rfl) rfl _ (fun w' hw' => NB.run_op_load_cells rfl rfl Try.underlying96 rfl ys hc2v (by rw [hyl]; kernel_rfl) hw') (fun K hK => ?_); go_simp; refine hK _ ?_; clear hK K
      refine NB.any_p 7 rfl (by kernel_rfl) (fun K hK => ?_); go_simp; refine hK _ ?_; clear hK K
      refine NB.any_p 8 rfl (by kernel_rfl) (fun K hK => ?_); go_simp; refine hK _ ?_; clear hK K
      refine NB.any_p 9 rfl (by kernel_rfl) (fun K hK => ?_); go_simp; refine hK _ ?_; clear hK K
      refine NB.any_p 10 rfl (by kernel_rfl) (fun K hK => ?_); go_simp; refine hK _ ?_; clear hK K
      refine NB.any_e 11 rfl (by kernel_rfl) (fun K hK => ?_); unfold NB.moves; go_simp; refine (right_any _ _ _ _ _ (NB.rdB_cut (Rd.below hv hbv) 56 (by omega)) (by omega)).mono ?_; rw [hR]; rintro e w2 ⟨rfl, hb2⟩; refine ⟨_, rfl, hb2, hK _ _ ?_⟩; clear hK K
      refine NB.any_p 12 rfl (by kernel_rfl) (fun K hK => ?_); go_simp; refine hK _ ?_; clear hK K
      refine NB.any_p 13 rfl (by kernel_rfl) (fun K hK => ?_); go_simp; refine hK _ ?_; clear hK K
      refine NB.any_p 14 rfl (by kernel_rfl) (fun K hK => ?_); go_simp; refine hK _ ?_; clear hK K
      refine NB.any_p 15 rfl (by kernel_rfl) (fun K hK => ?_); go_simp; refine hK _ ?_; clear hK K
      refine NB.any_e 16 rfl (by kernel_rfl) (fun K hK => ?_); go_simp; refine hK _ _ ?_; clear hK K
      refine NB.any_p 17 rfl (by kernel_rfl) (fun K hK => ?_); go_simp; refine hK _ ?_; clear hK K
      refine NB.any_p 18 rfl (by kernel_rfl) (fun K hK => ?_); go_simp; refine hK _ ?_; clear hK K
      refine NB.any_p 19 rfl (by kernel_rfl) (fun K hK => ?_); go_simp; refine hK _ ?_; clear hK K
      refine NB.any_p 20 rfl (by kernel_rfl) (fun K hK => ?_); go_simp; refine hK _ ?_; clear hK K
      refine NB.any_e 21 rfl (by kernel_rfl) (fun K hK => ?_); go_simp; refine hK _ _ ?_; clear hK K
      refine NB.any_p 22 rfl (by kernel_rfl) (fun K hK => ?_); go_simp; refine hK _ ?_; clear hK K
      refine NB.any_p 23 rfl (by kernel_rfl) (fun K hK => ?_); go_simp; refine hK _ ?_; clear hK K
      refine NB.any_p 24 rfl (by kernel_rfl) (fun K hK => ?_); go_simp; refine hK _ ?_; clear hK K
      refine NB.any_end (by kernel_rfl) ?_
      go_wp2_with fail
      go_ret
      exact ⟨by rw [HW.out, hR]; rfl, hB.trans (hb2.mono hB.size)⟩
    | true =>
      by_cases hy : y.toNat ≤ 43
      · have hyi : (y.toNat : Int) ≤ 43 := by omega
        have hdy : decide (y.toNat ≤ 43) = true := by simpa using hy
        by_cases hn : 0 < num8 l
        · have hni : (0 : Int) < (num8 l : Int) := by omega
          have hdn : decide (0 < num8 l) = true := by simpa using hn
          refine NB.any_p 0 rfl (by kernel_rfl) (fun K hK => ?_); go_simp; refine hK _ ?_; clear hK K
          refine NB.any_p 1 rfl (by kernel_rfl) (fun K hK => ?_); go_simp; refine hK _ ?_; clear hK K
          refine NB.any_r 2 rfl (by kernel_rfl) rfl _ (fun w' hw' => NB.run_op_load_cells rfl rfl Try.underlying96 rfl xs hc1v (by rw [hxl]; kernel_rfl) hw') (fun K hK => ?_); go_simp; refine hK _ ?_; clear hK K
          refine NB.any_p 3 rfl (by kernel_rfl) (fun K hK => ?_); go_simp; refine hK _ ?_; clear hK K
          refine NB.any_p 4 rfl (by kernel_rfl) (fun K hK => ?_); go_simp; refine hK _ ?_; clear hK K
          refine NB.any_p 5 rfl (by kernel_rfl) (fun K hK => ?_); go_simp; refine hK _ ?_; clear hK K
          refine NB.any_r 6 rfl (by kernel_rfl) rfl _ (fun w' hw' => NB.run_op_load_cells rfl rfl Try.underlying96 rfl ys hc2v (by rw [hyl]; kernel_rfl) hw') (fun K hK => ?_); go_simp; refine hK _ ?_; clear hK K
          refine NB.any_p 7 rfl (by kernel_rfl) (fun K hK => ?_); go_simp; refine hK _ ?_; clear hK K
          refine NB.any_p 8 rfl (by kernel_rfl) (fun K hK => ?_); go_simp; refine hK _ ?_; clear hK K
          refine NB.any_p 9 rfl (by kernel_rfl) (fun K hK => ?_); go_simp; refine hK _ ?_; clear hK K
          refine NB.any_p 10 rfl (by kernel_rfl) (fun K hK => ?_); go_simp; refine hK _ ?_; clear hK K
          refine NB.any_e 11 rfl (by kernel_rfl) (fun K hK => ?_); unfold NB.moves; go_simp; refine (right_any _ _ _ _ _ (NB.rdB_cut (Rd.below hv hbv) 56 (by omega)) (by omega)).mono ?_; rw [hR]; rintro e w2 ⟨rfl, hb2⟩; refine ⟨_, rfl, hb2, hK _ _ ?_⟩; clear hK K
          refine NB.any_p 12 rfl (by kernel_rfl) (fun K hK => ?_); go_simp; refine hK _ ?_; clear hK K
          refine NB.any_p 13 rfl (by kernel_rfl) (fun K hK => ?_); go_simp; refine hK _ ?_; clear hK K
          refine NB.any_p 14 rfl (by kernel_rfl) (fun K hK => ?_); go_simp; refine hK _ ?_; clear hK K
          refine NB.any_p 15 rfl (by kernel_rfl) (fun K hK => ?_); go_simp; refine hK _ ?_; clear hK K
          refine NB.any_r 16 rfl (by kernel_rfl) rfl _ (fun w' hw' => NB.run_op_load rfl rfl Try.underlying5 rfl (((hb2.cell (p := ⟨b3, o3 + 8, none⟩) (World.block_lt_of_cell? v _ q8v)).trans q8v)) hw') (fun K hK => ?_); go_simp; refine hK _ ?_; clear hK K
          refine NB.any_p 17 rfl (by kernel_rfl) (fun K hK => ?_); go_simp; refine hK _ ?_; clear hK K
          refine NB.any_p 18 rfl (by kernel_rfl) (fun K hK => ?_); go_simp; refine hK _ ?_; clear hK K
          refine NB.any_p 19 rfl (by kernel_rfl) (fun K hK => ?_); go_simp; refine hK _ ?_; clear hK K
          refine NB.any_p 20 rfl (by kernel_rfl) (fun K hK => ?_); go_simp; refine hK _ ?_; clear hK K
          refine NB.any_e 21 rfl (by kernel_rfl) (fun K hK => ?_); unfold NB.moves; go_simp; refine (HN.out _ _ _ _ _ (Rd.below (Rd.below hv hbv) hb2) (by omega)).mono ?_; rintro e w3 ⟨rfl, e2⟩; subst w3; refine ⟨_, rfl, Below.refl _ _, hK _ _ ?_⟩; clear hK K
          refine NB.any_p 22 rfl (by kernel_rfl) (fun K hK => ?_); go_simp; refine hK _ ?_; clear hK K
          refine NB.any_p 23 rfl (by kernel_rfl) (fun K hK => ?_); go_simp; refine hK _ ?_; clear hK K
          refine NB.any_p 24 rfl (by kernel_rfl) (fun K hK => ?_); go_simp; refine hK _ ?_; clear hK K
          refine NB.any_end (by kernel_rfl) ?_
          go_wp2_with fail
          go_ret
          exact ⟨by rw [HW.out, hR, hdy, hdn]; rfl, hB.trans (hb2.mono hB.size)⟩
        · have hni : ¬ (0 : Int) < (num8 l : Int) := by omega
          have hdn : decide (0 < num8 l) = false := by simpa using hn
          refine NB.any_p 0 rfl (by kernel_rfl) (fun K hK => ?_); go_simp; refine hK _ ?_; clear hK K
          refine NB.any_p 1 rfl (by kernel_rfl) (fun K hK => ?_); go_simp; refine hK _ ?_; clear hK K
          refine NB.any_r 2 rfl (by kernel_rfl) rfl _ (fun w' hw' => NB.run_op_load_cells rfl rfl Try.underlying96 rfl xs hc1v (by rw [hxl]; kernel_rfl) hw') (fun K hK => ?_); go_simp; refine hK _ ?_; clear hK K
          refine NB.any_p 3 rfl (by kernel_rfl) (fun K hK => ?_); go_simp; refine hK _ ?_; clear hK K
          refine NB.any_p 4 rfl (by kernel_rfl) (fun K hK => ?_); go_simp; refine hK _ ?_; clear hK K
          refine NB.any_p 5 rfl (by kernel_rfl) (fun K hK => ?_); go_simp; refine hK _ ?_; clear hK K
          refine NB.any_r 6 rfl (by kernel_rfl) rfl _ (fun w' hw' => NB.run_op_load_cells rfl rfl Try.underlying96 rfl ys hc2v (by rw [hyl]; kernel_rfl) hw') (fun K hK => ?_); go_simp; refine hK _ ?_; clear hK K
          refine NB.any_p 7 rfl (by kernel_rfl) (fun K hK => ?_); go_simp; refine hK _ ?_; clear hK K
          refine NB.any_p 8 rfl (by kernel_rfl) (fun K hK => ?_); go_simp; refine hK _ ?_; clear hK K
          refine NB.any_p 9 rfl (by kernel_rfl) (fun K hK => ?_); go_simp; refine hK _ ?_; clear hK K
          refine NB.any_p 10 rfl (by kernel_rfl) (fun K hK => ?_); go_simp; refine hK _ ?_; clear hK K
          refine NB.any_e 11 rfl (by kernel_rfl) (fun K hK => ?_); unfold NB.moves; go_simp; refine (right_any _ _ _ _ _ (NB.rdB_cut (Rd.below hv hbv) 56 (by omega)) (by omega)).mono ?_; rw [hR]; rintro e w2 ⟨rfl, hb2⟩; refine ⟨_, rfl, hb2, hK _ _ ?_⟩; clear hK K
          refine NB.any_p 12 rfl (by kernel_rfl) (fun K hK => ?_); go_simp; refine hK _ ?_; clear hK K
          refine NB.any_p 13 rfl (by kernel_rfl) (fun K hK => ?_); go_simp; refine hK _ ?_; clear hK K
          refine NB.any_p 14 rfl (by kernel_rfl) (fun K hK => ?_); go_simp; refine hK _ ?_; clear hK K
          refine NB.any_p 15 rfl (by kernel_rfl) (fun K hK => ?_); go_simp; refine hK _ ?_; clear hK K
          refine NB.any_r 16 rfl (by kernel_rfl) rfl _ (fun w' hw' => NB.run_op_load rfl rfl Try.underlying5 rfl (((hb2.cell (p := ⟨b3, o3 + 8, none⟩) (World.block_lt_of_cell? v _ q8v)).trans q8v)) hw') (fun K hK => ?_); go_simp; refine hK _ ?_; clear hK K
          refine NB.any_p 17 rfl (by kernel_rfl) (fun K hK => ?_); go_simp; refine hK _ ?_; clear hK K
          refine NB.any_p 18 rfl (by kernel_rfl) (fun K hK => ?_); go_simp; refine hK _ ?_; clear hK K
          refine NB.any_p 19 rfl (by kernel_rfl) (fun K hK => ?_); go_simp; refine hK _ ?_; clear hK K
          refine NB.any_p 20 rfl (by kernel_rfl) (fun K hK => ?_); go_simp; refine hK _ ?_; clear hK K
          refine NB.any_e 21 rfl (by kernel_rfl) (fun K hK => ?_); unfold NB.moves; go_simp; refine (HN.out _ _ _ _ _ (Rd.below (Rd.below hv hbv) hb2) (by omega)).mono ?_; rintro e w3 ⟨rfl, e2⟩; subst w3; refine ⟨_, rfl, Below.refl _ _, hK _ _ ?_⟩; clear hK K
          refine NB.any_p 22 rfl (by kernel_rfl) (fun K hK => ?_); go_simp; refine hK _ ?_; clear hK K
          refine NB.any_p 23 rfl (by kernel_rfl) (fun K hK => ?_); go_simp; refine hK _ ?_; clear hK K
          refine NB.any_p 24 rfl (by kernel_rfl) (fun K hK => ?_); go_simp; refine hK _ ?_; clear hK K
          refine NB.any_end (by kernel_rfl) ?_
          go_wp2_with fail
          go_ret
          exact ⟨by rw [HW.out, hR, hdy, hdn]; rfl, hB.trans (hb2.mono hB.size)⟩
      · have hyi : ¬ (y.toNat : Int) ≤ 43 := by omega
        have hdy : decide (y.toNat ≤ 43) = false := by simpa using hy
        refine NB.any_p 0 rfl (by kernel_rfl) (fun K hK => ?_); go_simp; refine hK _ ?_; clear hK K
        refine NB.any_p 1 rfl (by kernel_rfl) (fun K hK => ?_); go_simp; refine hK _ ?_; clear hK K
        refine NB.any_r 2 rfl (by kernel_rfl) rfl _ (fun w' hw' => NB.run_op_load_cells rfl rfl Try.underlying96 rfl xs hc1v (by rw [hxl]; kernel_rfl) hw') (fun K hK => ?_); go_simp; refine hK _ ?_; clear hK K
        refine NB.any_p 3 rfl (by kernel_rfl) (fun K hK => ?_); go_simp; refine hK _ ?_; clear hK K
        refine NB.any_p 4 rfl (by kernel_rfl) (fun K hK => ?_); go_simp; refine hK _ ?_; clear hK K
        refine NB.any_p 5 rfl (by kernel_rfl) (fun K hK => ?_); go_simp; refine hK _ ?_; clear hK K
        refine NB.any_r 6 rfl (by kernel_rfl) rfl _ (fun w' hw' => NB.run_op_load_cells rfl rfl Try.underlying96 rfl ys hc2v (by rw [hyl]; kernel_rfl) hw') (fun K hK => ?_); go_simp; refine hK _ ?_; clear hK K
        refine NB.any_p 7 rfl (by kernel_rfl) (fun K hK => ?_); go_simp; refine hK _ ?_; clear hK K
        refine NB.any_p 8 rfl (by kernel_rfl) (fun K hK => ?_); go_simp; refine hK _ ?_; clear hK K
        refine NB.any_p 9 rfl (by kernel_rfl) (fun K hK => ?_); go_simp; refine hK _ ?_; clear hK K
        refine NB.any_p 10 rfl (by kernel_rfl) (fun K hK => ?_); go_simp; refine hK _ ?_; clear hK K
        refine NB.any_e 11 rfl (by kernel_rfl) (fun K hK => ?_); unfold NB.moves; go_simp; refine (right_any _ _ _ _ _ (NB.rdB_cut (Rd.below hv hbv) 56 (by omega)) (by omega)).mono ?_; rw [hR]; rintro e w2 ⟨rfl, hb2⟩; refine ⟨_, rfl, hb2, hK _ _ ?_⟩; clear hK K
        refine NB.any_p 12 rfl (by kernel_rfl) (fun K hK => ?_); go_simp; refine hK _ ?_; clear hK K
        refine NB.any_p 13 rfl (by kernel_rfl) (fun K hK => ?_); go_simp; refine hK _ ?_; clear hK K
        refine NB.any_p 14 rfl (by kernel_rfl) (fun K hK => ?_); go_simp; refine hK _ ?_; clear hK K
        refine NB.any_p 15 rfl (by kernel_rfl) (fun K hK => ?_); go_simp; refine hK _ ?_; clear hK K
        refine NB.any_r 16 rfl (by kernel_rfl) rfl _ (fun w' hw' => NB.run_op_load rfl rfl Try.underlying5 rfl (((hb2.cell (p := ⟨b3, o3 + 8, none⟩) (World.block_lt_of_cell? v _ q8v)).trans q8v)) hw') (fun K hK => ?_); go_simp; refine hK _ ?_; clear hK K
        refine NB.any_p 17 rfl (by kernel_rfl) (fun K hK => ?_); go_simp; refine hK _ ?_; clear hK K
        refine NB.any_p 18 rfl (by kernel_rfl) (fun K hK => ?_); go_simp; refine hK _ ?_; clear hK K
        refine NB.any_p 19 rfl (by kernel_rfl) (fun K hK => ?_); go_simp; refine hK _ ?_; clear hK K
        refine NB.any_p 20 rfl (by kernel_rfl) (fun K hK => ?_); go_simp; refine hK _ ?_; clear hK K
        refine NB.any_e 21 rfl (by kernel_rfl) (fun K hK => ?_); go_simp; refine hK _ _ ?_; clear hK K
        refine NB.any_p 22 rfl (by kernel_rfl) (fun K hK => ?_); go_simp; refine hK _ ?_; clear hK K
        refine NB.any_p 23 rfl (by kernel_rfl) (fun K hK => ?_); go_simp; refine hK _ ?_; clear hK K
        refine NB.any_p 24 rfl (by kernel_rfl) (fun K hK => ?_); go_simp; refine hK _ ?_; clear hK K
        refine NB.any_end (by kernel_rfl) ?_
        go_wp2_with fail
        go_ret
        exact ⟨by rw [HW.out, hR, hdy]; rfl, hB.trans (hb2.mono hB.size)⟩
end Go.Proofs.Ytcdapjfaekamkaa
