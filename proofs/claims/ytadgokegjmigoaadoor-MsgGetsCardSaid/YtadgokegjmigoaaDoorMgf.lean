/- A message that may not be is not put; the whole of Put; 'small' and 'read' walked. -/
import Derived.Test.YtadgokegjmigoaaDoorMge
import Derived.Test.YtadgokegjmigoaaDoorNumc
namespace Go.Proofs.YtadgokegjmigoaaDoor
open Go.RowKit Go.Shelf
open Go.NB (Rd Kp Stp Off Dis oneB dB Rw RdU Lp Rr encU encB)

set_option maxRecDepth 100000 in
set_option maxHeartbeats 2000000 in
theorem mput_any (w : World) (hT : Tb w) (m : Mm) (av : Option Addr) (cv : Nat) (ab : Option Addr) (cb : Nat) (hR : MsgR w m av cv ab cb) (hW : WfM m) :
    Calls Tryd.prog 15 #[.agg (msgV m av cv ab cb).toArray] w (BytE w (mputM m)) := by
  by_cases hc : mcheckB m = true
  · rw [mput_ok hc hW]
    exact mput_ok_any w hT m av cv ab cb hR hW hc
  rw [mput_no hc]
  have hcm : mcheckM m = 1 := by unfold mcheckM; rw [if_neg hc]
  have RB : Rw (w.alloc (.cells (msgV m av cv ab cb).toArray 32)) w.heap.size (msgV m av cv ab cb) 32 := NB.rw_new w _ _ rfl
  have hT1 := hT.grow (oneB w (.cells (msgV m av cv ab cb).toArray 32))
  have B1 := oneB w (.cells (msgV m av cv ab cb).toArray 32)
  have hck := mcheck_any (w.alloc (.cells (msgV m av cv ab cb).toArray 32)) hT1 m av cv ab cb
  rw [hcm] at hck
  have HCK := Go.Lib.hid hck
  clear hck hcm hc
  unfold msgV at RB HCK B1 ⊢
  simp only [List.toArray] at RB HCK B1 ⊢
  go_enter Tryd.func15, Tryd.ntmps15
  go_wp2_with fail
  go_at_call 17
  refine HCK.out.mono ?_
  rintro e w3 ⟨rfl, hb3⟩
  have B3 := NB.bel B1 hb3 B1.size
  go_wp2_with fail
  go_ret2
  exact ⟨none, 0, rfl, World.ownsRow_nil _ _ _ _, B3⟩

/-- What reading a number below another one leaves. -/
def SmallE (w : World) (base p : Nat) (F : Nat → Prop) (q : Addr) (r : Rr) (below : Nat) (e : Ending) (w' : World) : Prop :=
  ∃ F' W1, HasR W1 base p F' r.uint.1 ∧ Stp F F' w W1 ∧
    ((below ≤ r.uint.2 ∧ e = .returned (.bool false) ∧ w' = W1) ∨ (r.uint.2 < below ∧ e = .returned (.bool true) ∧ w' = W1.setCell q (.int .i64 (r.uint.2 : Int))))
set_option maxHeartbeats 2000000 in
theorem small_any (w : World) (base p : Nat) (F : Nat → Prop) (r : Rr) (h : HasR w base p F r) (q : Nat) (j : Nat) (vs : List Value) (t : TypeId) (hq : Rw w q vs t) (hF : ¬ F q) (hj : ∃ u, vs[j]? = some (.int .i64 u)) (below : Nat) (hb : below ≤ 1000) :
    Calls Tryd.prog 52 #[.pointer (some ⟨p, 0, none⟩), .pointer (some ⟨q, j, none⟩), .int .u64 (below : Int)] w (SmallE w base p F ⟨q, j, none⟩ r below) := by
  obtain ⟨u, hu⟩ := hj
  have ctu := ruint_any w base p F r h
  obtain ⟨R', x, hrx⟩ : ∃ R' x, r.uint = (R', x) := ⟨_, _, rfl⟩
  rw [hrx] at ctu
  unfold SmallE
  rw [hrx]
  simp only at ctu ⊢
  clear hrx h
  by_cases hx : below ≤ x
  · have hxi : (below : Int) ≤ (x : Int) := by omega
    go_enter Tryd.func52, Tryd.ntmps52
    go_wp2_with fail
    go_at_call 51
    refine ctu.mono ?_
    rintro e w1 ⟨rfl, F', hr1, hS1⟩
    go_wp2_with fail
    go_ret
    exact ⟨F', w1, hr1, hS1, .inl ⟨hx, rfl, rfl⟩⟩
  · have hxi : ¬ (below : Int) ≤ (x : Int) := by omega
    have hw : IntKind.i64.wrap (x : Int) = (x : Int) := IntWalk.i64_in _ ⟨by omega, by omega⟩
    go_enter Tryd.func52, Tryd.ntmps52
    go_wp2_with fail
    go_at_call 51
    refine ctu.mono ?_
    rintro e w1 ⟨rfl, F', hr1, hS1⟩
    have hq1 := hq.keep hS1.kp hF
    have c1 := hq1.cell j _ hu
    have f1 := hq1.free j
    go_wp2_with fail
    go_ret
    exact ⟨F', w1, hr1, hS1, .inr ⟨by omega, rfl, rfl⟩⟩
end Go.Proofs.YtadgokegjmigoaaDoor
